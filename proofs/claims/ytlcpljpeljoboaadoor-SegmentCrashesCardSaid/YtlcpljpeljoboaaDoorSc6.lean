/- Part 6 of the texts of this proof, one behind the other; each begins with its own sentence. No condition beyond those that its theorems state. -/
import Derived.Test.YtlcpljpeljoboaaDoorSc5
import Derived.Deep.RegionWith
import Derived.Deep.CutBlock
import Derived.Deep.DeepCutAuto
/- bywashref08.Read: the segment of a file's bytes. For every slice of bytes. -/
namespace Go.Proofs.YtlcpljpeljoboaaDoor
open Go.RowKit

def SegRPost (b : List UInt8) (w : World) (e : Ending) (w' : World) : Prop :=
  ∃ ls m Ac cc Ag cg, e = .returned (.agg #[.int .i64 (segV ls).gen, .int .i64 (segV ls).en, .slice Ac (segV ls).cp.length cc, .slice Ag (segV ls).gs.length cg]) ∧ Steps b ls m ∧ scan1 m = none ∧ Touch [] w w' ∧
    RdB w' Ac (segV ls).cp ∧ (segV ls).cp.length ≤ cc ∧ (∀ x ∈ fpo Ac, w.heap.size ≤ x) ∧ GsD (fun x => w.heap.size ≤ x) w' Ag (segV ls).gs

theorem blk4 {w : World} {R : Nat} {a b c d : Value} {t : TypeId} (h : w.heap[R]? = some (.cells #[a, b, c, d] t (0, 0))) : w.cell? ⟨R, 0, none⟩ = some a ∧ w.cell? ⟨R, 1, none⟩ = some b ∧ w.cell? ⟨R, 2, none⟩ = some c ∧ w.cell? ⟨R, 3, none⟩ = some d ∧
    w.frozen? ⟨R, 0, none⟩ = false ∧ w.frozen? ⟨R, 1, none⟩ = false ∧ w.frozen? ⟨R, 2, none⟩ = false ∧ w.frozen? ⟨R, 3, none⟩ = false ∧ R < w.heap.size :=
  ⟨cell_blk h rfl, cell_blk h rfl, cell_blk h rfl, cell_blk h rfl, by simp [World.frozen?, h], by simp [World.frozen?, h], by simp [World.frozen?, h], by simp [World.frozen?, h], lt_of_block h⟩

/-- what holds at each round's head -/
structure RSegAt (w : World) (B1 : Nat) (ls : List (List UInt8)) (k : Nat) (Ac : Option Addr) (cc : Nat) (Ag : Option Addr) (cg : Nat) (s : SG) (wr : World) : Prop where
  R : wr.heap[w.heap.size]? = some (.cells #[.int .i64 0, .int .i64 0, .slice none 0 0, .slice none 0 0] 30 (0, 0))
  S : wr.heap[w.heap.size + 1]? = some (.cells #[.int .i64 s.gen, .int .i64 s.en, .slice Ac s.cp.length cc, .slice Ag s.gs.length cg] 30 (0, 0))
  cp : RdB wr Ac s.cp
  cc : s.cp.length ≤ cc
  fc : ∀ x ∈ fpo Ac, w.heap.size + 2 ≤ x ∧ x < B1
  gs : OwnGs (fun x => w.heap.size + 2 ≤ x) wr Ag cg s.gs
  fg : ∀ x ∈ fpo Ag, B1 ≤ x
  hB : w.heap.size + 2 ≤ B1
  at_ : SgAt ls k s
  en : s.en = ((ls.take k).flatMap frm).length
  gl : s.gs.length ≤ k
  gb : s.gen ≤ 9223372036854775807
  t : Touch [] w wr

theorem OwnBs.get {w : World} {A : Option Addr} {c : Nat} {ls : List (List UInt8)} {vs : List Value} (h : OwnBs w A c ls vs) (k : Nat) (hk : k < ls.length) : ∃ ad A' c', A = some ad ∧ w.cell? (ad.add k) = some (.slice A' ls[k].length c') ∧ .slice A' ls[k].length c' ∈ vs ∧ RdB w A' ls[k] ∧ ls[k].length ≤ c' := by
  obtain ⟨hown, hlen, hat⟩ := h
  rcases hown.2 with ⟨_, he⟩ | ⟨g, cap, cur, hg, _⟩
  · omega
  · have hA' : A = some ⟨g, 0, none⟩ := by injection hg
    subst hA'
    obtain ⟨A', c', h1, h2, h3, _⟩ := hat k hk
    exact ⟨_, A', c', rfl, World.ownsRow.cells hown (g := g) rfl k _ h1, List.mem_of_getElem? h1, h2, h3⟩
theorem out4 {X : World} {R : Nat} {a b c d : Value} {t : TypeId} (v0 v1 v2 v3 : Value) (h : X.heap[R]? = some (.cells #[a, b, c, d] t (0, 0))) :
    ((((X.setCell ⟨R, 0, none⟩ v0).setCell ⟨R, 1, none⟩ v1).setCell ⟨R, 2, none⟩ v2).setCell ⟨R, 3, none⟩ v3).heap[R]? = some (.cells #[v0, v1, v2, v3] t (0, 0)) ∧ Touch [R] X ((((X.setCell ⟨R, 0, none⟩ v0).setCell ⟨R, 1, none⟩ v1).setCell ⟨R, 2, none⟩ v2).setCell ⟨R, 3, none⟩ v3) :=
  ⟨set_blk (set_blk (set_blk (set_blk h 0 v0) 1 v1) 2 v2) 3 v3,
    ((((Touch.refl [R] X).setCell (p := ⟨R, 0, none⟩) (.inl (by simp)) v0).setCell (p := ⟨R, 1, none⟩) (.inl (by simp)) v1).setCell (p := ⟨R, 2, none⟩) (.inl (by simp)) v2).setCell (p := ⟨R, 3, none⟩) (.inl (by simp)) v3⟩

theorem RSegAt.done {w wr W : World} {B1 k : Nat} {b m : List UInt8} {ls : List (List UInt8)} {Ac Ag : Option Addr} {cc cg : Nat} {s : SG} (h : RSegAt w B1 ls k Ac cc Ag cg s wr) (hs : segV ls = s) (hst : Steps b ls m) (hsn : scan1 m = none) (hT : Touch [w.heap.size] wr W) :
    SegRPost b w (.returned (.agg #[.int .i64 s.gen, .int .i64 s.en, .slice Ac s.cp.length cc, .slice Ag s.gs.length cg])) W := by
  subst hs
  refine ⟨ls, m, Ac, cc, Ag, cg, rfl, hst, hsn, h.t.trans hT (fun x hx => .inr (by simp at hx; omega)), h.cp.touch1 hT (fun _ x hx hm => ?_), h.cc, fun x hx => by have := h.fc x hx; omega, ?_⟩
  · have := h.fc x hx; simp at hm; omega
  · have hB := h.hB
    have h1 := h.gs.gsD (fun x hx => by have := h.fg x hx; omega)
    exact (h1.touch hT (fun x hd _ hm => by simp at hm; omega)).mono (fun x _ hd => by omega)
/-- the frame's length is added -/
theorem RSegAt.close {w X W : World} {B1 k F : Nat} {ls : List (List UInt8)} {Ac Ag : Option Addr} {cc cg : Nat} {g : Nat} {cp : List UInt8} {gs : List (List (List UInt8))} {en : Nat}
    (R : X.heap[w.heap.size]? = some (.cells #[.int .i64 0, .int .i64 0, .slice none 0 0, .slice none 0 0] 30 (0, 0)))
    (S : X.heap[w.heap.size + 1]? = some (.cells #[.int .i64 g, .int .i64 en, .slice Ac cp.length cc, .slice Ag gs.length cg] 30 (0, 0)))
    (hcp : RdB X Ac cp) (hcc : cp.length ≤ cc) (fc : ∀ x ∈ fpo Ac, w.heap.size + 2 ≤ x ∧ x < B1) (hgs : OwnGs (fun x => w.heap.size + 2 ≤ x) X Ag cg gs) (fg : ∀ x ∈ fpo Ag, B1 ≤ x) (hB : w.heap.size + 2 ≤ B1)
    (at_ : SgAt ls (k + 1) ⟨g, cp, gs, en + F⟩) (hen : en + F = ((ls.take (k + 1)).flatMap frm).length) (gl : gs.length ≤ k + 1) (gb : g ≤ 9223372036854775807) (t : Touch [] w X) (hT : Touch [] X W) :
    RSegAt w B1 ls (k + 1) Ac cc Ag cg ⟨g, cp, gs, en + F⟩ (W.setCell ⟨w.heap.size + 1, 1, none⟩ (.int .i64 ((en : Int) + (F : Int)))) := by
  have T1 := (Touch.refl [w.heap.size + 1] W).setCell (p := ⟨w.heap.size + 1, 1, none⟩) (.inl (by simp)) (.int .i64 ((en : Int) + (F : Int)))
  have e : (.int .i64 ((en : Int) + (F : Int)) : Value) = .int .i64 ((en + F : Nat) : Int) := by push_cast; rfl
  refine ⟨T1.blk (hT.blk R (by simp)) (by simp), ?_, RdB.touch1 (Rd.touch0 hcp hT) T1 (fun _ x hx hm => by have := fc x hx; simp at hm; omega), hcc, fc, (hgs.touch0 hT).touch T1 (fun x hx hm => by have := fg x hx; simp at hm; omega) (fun x hd _ hm => by simp at hm; omega), fg, hB, at_, hen, gl, gb, (t.trans0 hT).trans T1 (fun x hx => .inr (by simp at hx; omega))⟩
  have := set_blk (hT.blk S (by simp)) 1 (.int .i64 ((en : Int) + (F : Int)))
  rw [this, e]
  rfl

set_option maxRecDepth 100000 in
set_option maxHeartbeats 1600000 in
theorem refSeg_any (A : Option Addr) (c n : Nat) (b : List UInt8) (hn : b.length = n) (hm : n ≤ 900000000) (hc : n ≤ c) (w : World) (hr : RdB w A b) :
    Calls Tryd.prog 10 #[.slice A n c] w fun e w' => SegRPost b w e w' := by
  subst hn
  go_enter Tryd.func10, Tryd.ntmps10
  go_wp2_with fail
  have hr2 : RdB ((w.alloc (.cells #[.int .i64 0, .int .i64 0, .slice none 0 0, .slice none 0 0] 30)).alloc (.cells #[.int .i64 0, .int .i64 0, .slice none 0 0, .slice none 0 0] 30)) A b := Rd.touch0 hr (((Touch.refl _ _).alloc _).alloc _)
  have T0 : Touch [] w ((w.alloc (.cells #[.int .i64 0, .int .i64 0, .slice none 0 0, .slice none 0 0] 30)).alloc (.cells #[.int .i64 0, .int .i64 0, .slice none 0 0, .slice none 0 0] 30)) := ((Touch.refl _ _).alloc _).alloc _
  have hS0 : ((w.alloc (.cells #[.int .i64 0, .int .i64 0, .slice none 0 0, .slice none 0 0] 30)).alloc (.cells #[.int .i64 0, .int .i64 0, .slice none 0 0, .slice none 0 0] 30)).heap[w.heap.size + 1]? = some (.cells #[.int .i64 0, .int .i64 0, .slice none 0 0, .slice none 0 0] 30 (0, 0)) := heap_alloc2_new _ _ _
  have hR0 : ((w.alloc (.cells #[.int .i64 0, .int .i64 0, .slice none 0 0, .slice none 0 0] 30)).alloc (.cells #[.int .i64 0, .int .i64 0, .slice none 0 0, .slice none 0 0] 30)).heap[w.heap.size]? = some (.cells #[.int .i64 0, .int .i64 0, .slice none 0 0, .slice none 0 0] 30 (0, 0)) := by
    exact ((Touch.refl [] _).alloc _).blk (heap_alloc_new _ _) (by simp)
  have hsz : ((w.alloc (.cells #[.int .i64 0, .int .i64 0, .slice none 0 0, .slice none 0 0] 30)).alloc (.cells #[.int .i64 0, .int .i64 0, .slice none 0 0, .slice none 0 0] 30)).heap.size = w.heap.size + 2 := by simp
  obtain ⟨w0, hw0⟩ : ∃ w0, w0 = ((w.alloc (.cells #[.int .i64 0, .int .i64 0, .slice none 0 0, .slice none 0 0] 30)).alloc (.cells #[.int .i64 0, .int .i64 0, .slice none 0 0, .slice none 0 0] 30)) := ⟨_, rfl⟩
  rw [← hw0] at hr2 T0 hS0 hR0 hsz ⊢
  clear hw0
  refine (refScan_any A c b.length b rfl hm hc w0 hr2).mono ?_
  rintro e w1 ⟨A1, c1, ls, vs, m, rfl, hown1, hst, hsn, ht1, hf1, hvs⟩
  have hbytes := hst.bytes hm
  have hsum : (ls.flatMap frm).length ≤ b.length := by have := congrArg List.length hbytes; rw [List.length_append] at this; omega
  clear hbytes
  have hll := len_le_sum ls
  have hs1 := ht1.size
  have hvlt : ∀ v ∈ vs, ∀ A' k c', v = .slice A' k c' → ∀ x ∈ fpo A', x < w1.heap.size := by
    intro v hv A' k c' e x hx
    obtain ⟨j, hj, hjv⟩ := List.mem_iff_getElem.1 hv
    obtain ⟨A'', c'', h1, -, -, h4⟩ := hown1.at_ j (by rw [← hown1.len]; exact hj)
    rw [List.getElem?_eq_getElem hj, hjv, e] at h1
    injection h1 with h1
    injection h1 with h1 _ _
    subst h1
    exact (h4 x hx).2
  go_wp2_with fail
  go_loopw [6] (fun i wr => ∃ (k : Nat), i = .int .i64 k ∧ k ≤ ls.length ∧ OwnBs wr A1 c1 ls vs ∧ w1.heap.size ≤ wr.heap.size ∧ ∃ Ac cc Ag cg s, RSegAt w w1.heap.size ls k Ac cc Ag cg s wr) (fun i _ => ls.length - (intOf i).toNat)
  case atStart => exact ⟨0, rfl, by omega, hown1, Nat.le_refl _, none, 0, none, 0, ⟨0, [], [], 0⟩, ⟨ht1.blk hR0 (by simp), ht1.blk hS0 (by simp), Rd.nil _ _, by simp, by simp [fpo], OwnGs.nil _ _, by simp [fpo], by omega, .inl ⟨rfl, rfl⟩, by simp, by simp, by simp, T0.trans0 ht1⟩⟩
  case round =>
    obtain ⟨k, rfl, hk, hown, hown1ge, Ac, cc, Ag, cg, s, hX⟩ := hrel
    have HX := Lib.hid hX
    obtain ⟨hR, hS, hcp, hcc, hfc, hgs, hfg, hB, hat, hen, hgl, hgb, ht⟩ := hX
    rcases s with ⟨gen, cp, gs, en⟩
    simp only at hS hcp hcc hgs hen hgl hgb
    obtain ⟨s0, s1, s2, s3, z0, z1, z2, z3, hSl⟩ := blk4 hS
    obtain ⟨r0, r1, r2, r3, q0, q1, q2, q3, hRl⟩ := blk4 hR
    by_cases hlt : k < ls.length
    · have hltI : decide ((k : Int) < (ls.length : Int)) = true := by simpa using hlt
      obtain ⟨ad, Af, cf, rfl, hcell, hmem, hrf, hcf⟩ := hown.get k hlt
      have hAf1 := fun x hx => hvs _ hmem Af _ cf rfl x hx
      have hAf2 := fun x hx => hvlt _ hmem Af _ cf rfl x hx
      have hfb : (ls[k]).length ≤ b.length := Nat.le_trans (mem_le_sum ls k hlt) hsum
      have hst1 := sum_take ls k hlt
      have hst2 := sum_le ls (k + 1)
      obtain ⟨f, hfe⟩ : ∃ f, f = ls[k] := ⟨_, rfl⟩
      rw [← hfe] at hcell hrf hcf hfb hst1 hmem
      obtain ⟨F, hF⟩ : ∃ F, F = (frm f).length := ⟨_, rfl⟩
      rw [← hF] at hst1
      have hFb : en + F ≤ b.length := by omega
      have hAdd : IntKind.i64.wrap ((en : Int) + (F : Int)) = (en : Int) + F := IntWalk.i64_in _ (by omega)
      have Hst2 := Lib.hid hst1
      have Hen := Lib.hid hen
      have Hfe := Lib.hid hfe
      clear hst1 hst2 hen hfe
      by_cases hk0 : k = 0
      · subst hk0
        have hcell0 : wr.cell? ad = some (.slice Af f.length cf) := by
          have h1 := hcell
          rwa [show ad.add 0 = ad by simp [Addr.add]] at h1
        have hz : gs = [] ∧ en = 0 := by
          rcases hat with ⟨_, h⟩ | ⟨h, _⟩
          · cases h; exact ⟨rfl, rfl⟩
          · omega
        have hHd := refHead_any Af cf f.length f rfl (by omega) hcf wr hrf
        unfold HdRPost at hHd
        rcases hd : rdHd f with _ | ⟨g, cpt⟩
        · rw [hd] at hHd
          have hsv : segV ls = ⟨0, [], [], 0⟩ := SgAt.none hlt (by rw [← Hfe.out]; exact hd)
          have Hsv := Lib.hid hsv
          clear hd hsv hat hz
          go_wp2_with fail
          refine hHd.mono ?_
          clear hHd
          rintro e w2 ⟨rfl, ht2⟩
          have hS2 := ht2.blk hS (by simp)
          have hR2 := ht2.blk hR (by simp)
          clear s0 s1 s2 s3 z0 z1 z2 z3 hSl r0 r1 r2 r3 q0 q1 q2 q3 hRl
          obtain ⟨s0, s1, s2, s3, z0, z1, z2, z3, hSl⟩ := blk4 hS2
          obtain ⟨r0, r1, r2, r3, q0, q1, q2, q3, hRl⟩ := blk4 hR2
          have T2 := ht.trans0 ht2
          have TX : Touch [w.heap.size + 1] w2 ((w2.setCell ⟨w.heap.size + 1, 0, none⟩ (.int .i64 0)).setCell ⟨w.heap.size + 1, 2, none⟩ (.slice none 0 0)) := ((Touch.refl _ _).setCell (.inl (by simp)) _).setCell (.inl (by simp)) _
          have Hout := Lib.hid (out4 (.int .i64 0) (.int .i64 0) (.slice none 0 0) (.slice none 0 0) (TX.blk hR2 (by simp)))
          go_wp2
          (try simp only [Exit.inBlock, Exit.then])
          refine bodyPost_ret (results_cell_row rfl _ _ w.heap.size _ _ _ _ rfl Hout.out.1 Tryd.underlying30 rfl rfl) rfl ?_
          refine ⟨ls, m, none, 0, none, 0, by rw [Hsv.out]; rfl, hst, hsn, ?_, by rw [Hsv.out]; exact Rd.nil _ _, by rw [Hsv.out]; simp, by simp [fpo], by rw [Hsv.out]; exact GsD.nil _ _ _⟩
          exact (T2.trans TX (fun x hx => .inr (by simp at hx; omega))).trans Hout.out.2 (fun x hx => .inr (by simp at hx; omega))
        · rw [hd] at hHd
          have Hd := Lib.hid hd
          have Hat := Lib.hid hat
          have Hz := Lib.hid hz
          clear hd hat hz
          go_wp2_with fail
          refine hHd.mono ?_
          clear hHd
          rintro e w2 ⟨A4, c4, rfl, ht2, hr4, hc4, hA4, hg1, hg2⟩
          have hS2 := ht2.blk hS (by simp)
          have hR2 := ht2.blk hR (by simp)
          clear s0 s1 s2 s3 z0 z1 z2 z3 hSl r0 r1 r2 r3 q0 q1 q2 q3 hRl
          obtain ⟨s0, s1, s2, s3, z0, z1, z2, z3, hSl⟩ := blk4 hS2
          obtain ⟨r0, r1, r2, r3, q0, q1, q2, q3, hRl⟩ := blk4 hR2
          have hgne : ((g : Int) == 0) = false := by rw [beq_eq_false_iff_ne]; omega
          have TX : Touch [w.heap.size + 1] w2 ((w2.setCell ⟨w.heap.size + 1, 0, none⟩ (.int .i64 g)).setCell ⟨w.heap.size + 1, 2, none⟩ (.slice A4 cpt.length c4)) := ((Touch.refl _ _).setCell (.inl (by simp)) _).setCell (.inl (by simp)) _
          have hSX : ((w2.setCell ⟨w.heap.size + 1, 0, none⟩ (.int .i64 g)).setCell ⟨w.heap.size + 1, 2, none⟩ (.slice A4 cpt.length c4)).heap[w.heap.size + 1]? = some (.cells #[.int .i64 g, .int .i64 en, .slice A4 cpt.length c4, .slice Ag gs.length cg] 30 (0, 0)) := set_blk (set_blk hS2 0 _) 2 _
          have hA4' : ∀ x ∈ fpo A4, w.heap.size + 2 ≤ x ∧ x < w1.heap.size := fun x hx => ⟨by have := hAf1 x (hA4 x hx); omega, hAf2 x (hA4 x hx)⟩
          have hrfX := RdB.touch1 (Rd.touch0 hrf ht2) TX (fun _ x hx hm => by have := hAf1 x hx; simp at hm; omega)
          have hcellX := TX.cell (ht2.cell hcell0 (by simp)) (by have := hf1 ad.block (by simp [fpo]); simp; omega)
          have hnx : ∀ W, Touch [] ((w2.setCell ⟨w.heap.size + 1, 0, none⟩ (.int .i64 g)).setCell ⟨w.heap.size + 1, 2, none⟩ (.slice A4 cpt.length c4)) W → OwnBs (W.setCell ⟨w.heap.size + 1, 1, none⟩ (.int .i64 ((en : Int) + (F : Int)))) (some ad) c1 ls vs ∧ w1.heap.size ≤ (W.setCell ⟨w.heap.size + 1, 1, none⟩ (.int .i64 ((en : Int) + (F : Int)))).heap.size ∧ ∃ Ac cc Ag cg s, RSegAt w w1.heap.size ls (0 + 1) Ac cc Ag cg s (W.setCell ⟨w.heap.size + 1, 1, none⟩ (.int .i64 ((en : Int) + (F : Int)))) := by
            intro W hW
            refine ⟨((((hown.touch0 ht2).keepIn TX (fun x hx e => by have := hf1 x hx; omega) (fun v hv A' k c' e hm => by have := hvs v hv A' k c' e _ hm; omega)).touch0 hW).keepIn ((Touch.refl [w.heap.size + 1] W).setCell (p := ⟨w.heap.size + 1, 1, none⟩) (.inl (by simp)) _) (fun x hx e => by have := hf1 x hx; omega) (fun v hv A' k c' e hm => by have := hvs v hv A' k c' e _ hm; omega)), by have z1 := ht2.size; have z2 := TX.size; have z3 := hW.size; have z4 := ((Touch.refl [w.heap.size + 1] W).setCell (p := ⟨w.heap.size + 1, 1, none⟩) (.inl (by simp)) (.int .i64 ((en : Int) + (F : Int)))).size; omega, A4, c4, Ag, cg, ⟨g, cpt, gs, en + F⟩, ?_⟩
            refine RSegAt.close (TX.blk hR2 (by simp)) hSX (hr4.touch1 TX (fun _ x hx hm => by have := hA4' x hx; simp at hm; omega)) hc4 hA4' ((hgs.touch0 ht2).touch TX (fun x hx hm => by have := hfg x hx; simp at hm; omega) (fun x hd _ hm => by simp at hm; omega)) hfg hB ?_ (by rw [Hst2.out, Hen.out]) (by omega) hg2 ((ht.trans0 ht2).trans TX (fun x hx => .inr (by simp at hx; omega))) hW
            have h1 := SgAt.head Hat.out hlt (by rw [← Hfe.out]; exact Hd.out) hg1
            rw [← Hfe.out, ← hF] at h1
            simp only [Hz.out.1, Hz.out.2, Nat.zero_add]
            exact h1
          have Hnx := Lib.hid hnx
          clear hnx
          have hcellD := ((Touch.refl [] _).drew).cell hcellX (by simp)
          obtain ⟨j0, j1, j2, j3, l0, l1, l2, l3, -⟩ := blk4 (((Touch.refl [] _).drew).blk hSX (by simp))
          have hrfD := Rd.touch0 hrfX ((Touch.refl [] _).drew)
          have hSD := ((Touch.refl [] _).drew).blk hSX (by simp)
          go_upto_region 14 with (fail)
          go_region_with (first
            | (go_at_call 39; refine (refFrame_any Af cf f.length f rfl (by omega) _ hrfD).mono ?_; rintro e w9 ⟨A9, c9, rfl, hown9, ht9, hf9⟩; rw [← hF]; obtain ⟨y0, y1, y2, y3, u0, u1, u2, u3, -⟩ := blk4 (ht9.blk hSD (by simp))))
          all_goals
            have hnxW := Hnx.out _ ht9.ofDrew
            rw [hF] at hnxW
            go_wp2_with fail
            go_roundw
            case rel => exact ⟨0 + 1, by go_num, by omega, hnxW⟩
            case measure => simp [intOf]; omega
      · have hk0I : ((k : Int) == 0) = false := by rw [beq_eq_false_iff_ne]; omega
        have hGp := refGroup_any Af cf f.length f rfl (by omega) hcf wr hrf
        unfold GpRPost at hGp
        have hkp : 0 < k := by omega
        rcases hd : rdGp f with _ | ss
        · rw [hd] at hGp
          have hsv := hat.stop hkp hlt (by rw [← Hfe.out]; exact hd)
          have hfin := fun W hW => HX.out.done hsv hst hsn (W := W) hW
          have Hfin := Lib.hid hfin
          clear hd hsv hat hfin
          go_wp2_with fail
          refine hGp.mono ?_
          clear hGp
          rintro e w2 ⟨A4, c4, n4, rfl, ht2⟩
          have hS2 := ht2.blk hS (by simp)
          have hR2 := ht2.blk hR (by simp)
          clear s0 s1 s2 s3 z0 z1 z2 z3 hSl r0 r1 r2 r3 q0 q1 q2 q3 hRl
          obtain ⟨s0, s1, s2, s3, z0, z1, z2, z3, hSl⟩ := blk4 hS2
          obtain ⟨r0, r1, r2, r3, q0, q1, q2, q3, hRl⟩ := blk4 hR2
          have Hout := Lib.hid (fun a b c d => out4 a b c d hR2)
          go_wp2
          (try simp only [Exit.inBlock, Exit.then])
          refine bodyPost_ret (results_cell_row rfl _ _ w.heap.size _ _ _ _ rfl (Hout.out _ _ _ _).1 Tryd.underlying30 rfl rfl) rfl ?_
          exact Hfin.out _ ((ht2.mono (by simp)).trans (Hout.out _ _ _ _).2 (fun x hx => .inl hx))
        · rw [hd] at hGp
          have Hd := Lib.hid hd
          have Hat := Lib.hid hat
          clear hd hat
          go_wp2_with fail
          refine hGp.mono ?_
          clear hGp
          rintro e w2 ⟨A4, c4, rfl, ht2, hbs⟩
          have hS2 := ht2.blk hS (by simp)
          have hR2 := ht2.blk hR (by simp)
          clear s0 s1 s2 s3 z0 z1 z2 z3 hSl r0 r1 r2 r3 q0 q1 q2 q3 hRl
          obtain ⟨s0, s1, s2, s3, z0, z1, z2, z3, hSl⟩ := blk4 hS2
          obtain ⟨r0, r1, r2, r3, q0, q1, q2, q3, hRl⟩ := blk4 hR2
          have hsw := ht.size
          have hsw2 := ht2.size
          have hAgl := hgs.lt
          have tx := (Touch.refl [] w2).alloc (.cells #[.slice A4 ss.length c4] 49)
          have hcx : (w2.alloc (.cells #[.slice A4 ss.length c4] 49)).cell? ⟨w2.heap.size, 0, none⟩ = some (.slice A4 ss.length c4) := cell_of_one (heap_alloc_new w2 _)
          have hbs2 : BsD (fun x => w.heap.size + 2 ≤ x ∧ x ∉ fpo Ag) w2 A4 ss := hbs.mono (fun x _ hd => by
            rcases hd with h1 | h1
            · exact ⟨by have := hAf1 x h1; omega, fun hm => by have := hfg x hm; have := hAf2 x h1; omega⟩
            · exact ⟨by omega, fun hm => by have := hAgl x hm; omega⟩)
          go_wp2_with (at_builtin; refine stop ?_)
          refine go ?_
          refine wpList_appGs rfl (.tmp 47) (.tmp 49) rfl Ag gs.length cg gs rfl rfl ((hgs.touch0 ht2).touch0 tx) w2.heap.size A4 ss.length c4 ss rfl hcx rfl (hbs2.touch0 tx) (by omega) ?_
          intro A7 c7 w7 hown7 ht7 hf7
          have hS7 := ht7.blk (tx.blk hS2 (by simp)) (fun hm => by have := hfg _ hm; omega)
          have hR7 := ht7.blk (tx.blk hR2 (by simp)) (fun hm => by have := hfg _ hm; omega)
          clear s0 s1 s2 s3 z0 z1 z2 z3 hSl r0 r1 r2 r3 q0 q1 q2 q3 hRl
          obtain ⟨s0, s1, s2, s3, z0, z1, z2, z3, hSl⟩ := blk4 hS7
          obtain ⟨r0, r1, r2, r3, q0, q1, q2, q3, hRl⟩ := blk4 hR7
          have TX : Touch [w.heap.size + 1] w7 (w7.setCell ⟨w.heap.size + 1, 3, none⟩ (.slice A7 (gs.length + 1) c7)) := (Touch.refl _ _).setCell (.inl (by simp)) _
          have hSX : (w7.setCell ⟨w.heap.size + 1, 3, none⟩ (.slice A7 (gs.length + 1) c7)).heap[w.heap.size + 1]? = some (.cells #[.int .i64 gen, .int .i64 en, .slice Ac cp.length cc, .slice A7 (gs ++ [ss]).length c7] 30 (0, 0)) := by
            rw [List.length_append]; exact set_blk hS7 3 _
          have hf7' : ∀ x ∈ fpo A7, w1.heap.size ≤ x := fun x hx => by
            rcases hf7 x hx with h1 | h1
            · exact hfg x h1
            · simp at h1
              have := hown1ge
              omega
          have T7 : Touch (fpo Ag) wr w7 := ((ht2.trans0 tx).mono (by simp)).trans ht7 (fun x hx => .inl hx)
          have hrfX := RdB.touch1 (RdB.touch1 hrf T7 (fun _ x hx hm => by have := hAf2 x hx; have := hfg x hm; omega)) TX (fun _ x hx hm => by have := hAf1 x hx; simp at hm; omega)
          have hown8 : OwnBs w7 (some ad) c1 ls vs := hown.touch (n := 0) T7 (fun x hx hm => by have := hown1.lt x hx; have := hfg x hm; omega) (fun j hj A' hr' ⟨c', hc'⟩ => Rd.touch hr' T7 (fun x hx hm => by have := hvlt _ (List.mem_of_getElem? hc') A' _ c' rfl x hx; have := hfg x hm; omega)) rfl
          have hcellX := TX.cell (T7.cell hcell (by rw [block_of_add]; intro hm; have := hown1.lt ad.block (by simp [fpo]); have := hfg _ hm; omega)) (by rw [block_of_add]; have := hf1 ad.block (by simp [fpo]); simp; omega)
          have hnx : ∀ W, Touch [] (w7.setCell ⟨w.heap.size + 1, 3, none⟩ (.slice A7 (gs.length + 1) c7)) W → OwnBs (W.setCell ⟨w.heap.size + 1, 1, none⟩ (.int .i64 ((en : Int) + (F : Int)))) (some ad) c1 ls vs ∧ w1.heap.size ≤ (W.setCell ⟨w.heap.size + 1, 1, none⟩ (.int .i64 ((en : Int) + (F : Int)))).heap.size ∧ ∃ Ac cc Ag cg s, RSegAt w w1.heap.size ls (k + 1) Ac cc Ag cg s (W.setCell ⟨w.heap.size + 1, 1, none⟩ (.int .i64 ((en : Int) + (F : Int)))) := by
            intro W hW
            refine ⟨(((hown8.keepIn TX (fun x hx e => by have := hf1 x hx; omega) (fun v hv A' k c' e hm => by have := hvs v hv A' k c' e _ hm; omega)).touch0 hW).keepIn ((Touch.refl [w.heap.size + 1] W).setCell (p := ⟨w.heap.size + 1, 1, none⟩) (.inl (by simp)) _) (fun x hx e => by have := hf1 x hx; omega) (fun v hv A' k c' e hm => by have := hvs v hv A' k c' e _ hm; omega)), by have z1 := T7.size; have z2 := TX.size; have z3 := hW.size; have z4 := ((Touch.refl [w.heap.size + 1] W).setCell (p := ⟨w.heap.size + 1, 1, none⟩) (.inl (by simp)) (.int .i64 ((en : Int) + (F : Int)))).size; omega, Ac, cc, A7, c7, ⟨gen, cp, gs ++ [ss], en + F⟩, ?_⟩
            refine RSegAt.close (TX.blk hR7 (by simp)) hSX (RdB.touch1 (RdB.touch1 hcp T7 (fun _ x hx hm => by have := hfc x hx; have := hfg x hm; omega)) TX (fun _ x hx hm => by have := hfc x hx; simp at hm; omega)) hcc hfc (hown7.touch TX (fun x hx hm => by have := hf7' x hx; simp at hm; omega) (fun x hd _ hm => by simp at hm; omega)) hf7' hB ?_ (by rw [Hst2.out, Hen.out]) (by rw [List.length_append]; simp; omega) hgb ((ht.trans T7 (fun x hx => .inr (by have := hfg x hx; omega))).trans TX (fun x hx => .inr (by simp at hx; omega))) hW
            have h1 := SgAt.next Hat.out hkp hlt (by rw [← Hfe.out]; exact Hd.out)
            rw [← Hfe.out, ← hF] at h1
            exact h1
          have Hnx := Lib.hid hnx
          clear hnx
          have hcellD := ((Touch.refl [] _).drew).cell hcellX (by simp)
          obtain ⟨j0, j1, j2, j3, l0, l1, l2, l3, -⟩ := blk4 (((Touch.refl [] _).drew).blk hSX (by simp))
          have hrfD := Rd.touch0 hrfX ((Touch.refl [] _).drew)
          have hSD := ((Touch.refl [] _).drew).blk hSX (by simp)
          go_upto_region 14 with (fail)
          go_region_with (first
            | (go_at_call 39; refine (refFrame_any Af cf f.length f rfl (by omega) _ hrfD).mono ?_; rintro e w9 ⟨A9, c9, rfl, hown9, ht9, hf9⟩; rw [← hF]; obtain ⟨y0, y1, y2, y3, u0, u1, u2, u3, -⟩ := blk4 (ht9.blk hSD (by simp))))
          all_goals
            have hnxW := Hnx.out _ ht9.ofDrew
            rw [hF] at hnxW
            go_wp2_with fail
            go_roundw
            case rel => exact ⟨k + 1, by go_num, by omega, hnxW⟩
            case measure => simp [intOf]; omega
    · obtain rfl : k = ls.length := by omega
      have hltI : decide ((ls.length : Int) < (ls.length : Int)) = false := by simp
      have hfin := fun W hW => HX.out.done hat.all hst hsn (W := W) hW
      have Hfin := Lib.hid hfin
      have Hout := Lib.hid (fun a b c d => out4 a b c d hR)
      clear hfin hat hen
      go_wp2
      (try simp only [Exit.inBlock, Exit.then])
      refine bodyPost_ret (results_cell_row rfl _ _ w.heap.size _ _ _ _ rfl (Hout.out _ _ _ _).1 Tryd.underlying30 rfl rfl) rfl ?_
      exact Hfin.out _ (Hout.out _ _ _ _).2
end Go.Proofs.YtlcpljpeljoboaaDoor

/- segment.read: the segment of a file's bytes. For every slice of bytes. -/
namespace Go.Proofs.YtlcpljpeljoboaaDoor
open Go.RowKit

def SegPost (b : List UInt8) (w : World) (e : Ending) (w' : World) : Prop :=
  ∃ ls m Ac cc Ag cg, e = .returned (.agg #[.int .i64 (segV ls).gen, .slice Ac (segV ls).cp.length cc, .slice Ag (segV ls).gs.length cg, .int .i64 (segV ls).en]) ∧ Steps b ls m ∧ scan1 m = none ∧ Touch [] w w' ∧
    RdB w' Ac (segV ls).cp ∧ (segV ls).cp.length ≤ cc ∧ (0 < (segV ls).cp.length → ∀ x ∈ fpo Ac, w.heap.size ≤ x) ∧ GsD (fun x => w.heap.size ≤ x) w' Ag (segV ls).gs ∧ (segV ls).gs.length ≤ cg
theorem OwnGs.le {D : Nat → Prop} {w : World} {A : Option Addr} {c : Nat} {gs : List (List (List UInt8))} (h : OwnGs D w A c gs) : gs.length ≤ c := by
  obtain ⟨vs, hown, _⟩ := h.ex
  rcases hown.2 with ⟨_, h0⟩ | ⟨g, cap, cur, hv, _, _, hnc, _⟩
  · omega
  · injection hv with _ _ e; omega

/-- what holds at each round's head -/
structure SegAt (w : World) (B1 : Nat) (ls : List (List UInt8)) (k : Nat) (Ac : Option Addr) (cc : Nat) (Ag : Option Addr) (cg : Nat) (s : SG) (wr : World) : Prop where
  R : wr.heap[w.heap.size]? = some (.cells #[.int .i64 0, .slice none 0 0, .slice none 0 0, .int .i64 0] 81 (0, 0))
  S : wr.heap[w.heap.size + 1]? = some (.cells #[.int .i64 s.gen, .slice Ac s.cp.length cc, .slice Ag s.gs.length cg, .int .i64 s.en] 81 (0, 0))
  cp : RdB wr Ac s.cp
  cc : s.cp.length ≤ cc
  fc : 0 < s.cp.length → ∀ x ∈ fpo Ac, w.heap.size + 2 ≤ x ∧ x ∉ fpo Ag
  gs : OwnGs (fun x => w.heap.size + 2 ≤ x) wr Ag cg s.gs
  fg : ∀ x ∈ fpo Ag, B1 ≤ x
  hB : w.heap.size + 2 ≤ B1
  at_ : SgAt ls k s
  en : s.en = ((ls.take k).flatMap frm).length
  gl : s.gs.length ≤ k
  gb : s.gen ≤ 9223372036854775807
  t : Touch [] w wr

theorem SegAt.done {w wr W : World} {B1 k : Nat} {b m : List UInt8} {ls : List (List UInt8)} {Ac Ag : Option Addr} {cc cg : Nat} {s : SG} (h : SegAt w B1 ls k Ac cc Ag cg s wr) (hs : segV ls = s) (hst : Steps b ls m) (hsn : scan1 m = none) (hT : Touch [w.heap.size] wr W) :
    SegPost b w (.returned (.agg #[.int .i64 s.gen, .slice Ac s.cp.length cc, .slice Ag s.gs.length cg, .int .i64 s.en])) W := by
  subst hs
  refine ⟨ls, m, Ac, cc, Ag, cg, rfl, hst, hsn, h.t.trans hT (fun x hx => .inr (by simp at hx; omega)), h.cp.touch1 hT (fun h0 x hx hm => ?_), h.cc, fun h0 x hx => by have := (h.fc h0 x hx).1; omega, ?_, h.gs.le⟩
  · have := (h.fc h0 x hx).1; simp at hm; omega
  · have hB := h.hB
    have h1 := h.gs.gsD (fun x hx => by have := h.fg x hx; omega)
    exact (h1.touch hT (fun x hd _ hm => by simp at hm; omega)).mono (fun x _ hd => by omega)
/-- the frame's length is added -/
theorem SegAt.close {w X W : World} {B1 k F : Nat} {ls : List (List UInt8)} {Ac Ag : Option Addr} {cc cg : Nat} {g : Nat} {cp : List UInt8} {gs : List (List (List UInt8))} {en : Nat}
    (R : X.heap[w.heap.size]? = some (.cells #[.int .i64 0, .slice none 0 0, .slice none 0 0, .int .i64 0] 81 (0, 0)))
    (S : X.heap[w.heap.size + 1]? = some (.cells #[.int .i64 g, .slice Ac cp.length cc, .slice Ag gs.length cg, .int .i64 en] 81 (0, 0)))
    (hcp : RdB X Ac cp) (hcc : cp.length ≤ cc) (fc : 0 < cp.length → ∀ x ∈ fpo Ac, w.heap.size + 2 ≤ x ∧ x ∉ fpo Ag) (hgs : OwnGs (fun x => w.heap.size + 2 ≤ x) X Ag cg gs) (fg : ∀ x ∈ fpo Ag, B1 ≤ x) (hB : w.heap.size + 2 ≤ B1)
    (at_ : SgAt ls (k + 1) ⟨g, cp, gs, en + F⟩) (hen : en + F = ((ls.take (k + 1)).flatMap frm).length) (gl : gs.length ≤ k + 1) (gb : g ≤ 9223372036854775807) (t : Touch [] w X) (hT : Touch [] X W) :
    SegAt w B1 ls (k + 1) Ac cc Ag cg ⟨g, cp, gs, en + F⟩ (W.setCell ⟨w.heap.size + 1, 3, none⟩ (.int .i64 ((en : Int) + (F : Int)))) := by
  have T1 := (Touch.refl [w.heap.size + 1] W).setCell (p := ⟨w.heap.size + 1, 3, none⟩) (.inl (by simp)) (.int .i64 ((en : Int) + (F : Int)))
  have e : (.int .i64 ((en : Int) + (F : Int)) : Value) = .int .i64 ((en + F : Nat) : Int) := by push_cast; rfl
  refine ⟨T1.blk (hT.blk R (by simp)) (by simp), ?_, RdB.touch1 (Rd.touch0 hcp hT) T1 (fun h0 x hx hm => by have := (fc h0 x hx).1; simp at hm; omega), hcc, fc, (hgs.touch0 hT).touch T1 (fun x hx hm => by have := fg x hx; simp at hm; omega) (fun x hd _ hm => by simp at hm; omega), fg, hB, at_, hen, gl, gb, (t.trans0 hT).trans T1 (fun x hx => .inr (by simp at hx; omega))⟩
  have := set_blk (hT.blk S (by simp)) 3 (.int .i64 ((en : Int) + (F : Int)))
  rw [this, e]
  rfl

set_option maxRecDepth 100000 in
set_option maxHeartbeats 1600000 in
theorem read_any (A : Option Addr) (c n : Nat) (b : List UInt8) (hn : b.length = n) (hm : n ≤ 900000000) (w : World) (hr : RdB w A b) (hh : HalfAt w) :
    Calls Tryd.prog 40 #[.slice A n c] w fun e w' => SegPost b w e w' := by
  subst hn
  go_enter Tryd.func40, Tryd.ntmps40
  go_wp2_with fail
  have hr2 : RdB ((w.alloc (.cells #[.int .i64 0, .slice none 0 0, .slice none 0 0, .int .i64 0] 81)).alloc (.cells #[.int .i64 0, .slice none 0 0, .slice none 0 0, .int .i64 0] 81)) A b := Rd.touch0 hr (((Touch.refl _ _).alloc _).alloc _)
  have T0 : Touch [] w ((w.alloc (.cells #[.int .i64 0, .slice none 0 0, .slice none 0 0, .int .i64 0] 81)).alloc (.cells #[.int .i64 0, .slice none 0 0, .slice none 0 0, .int .i64 0] 81)) := ((Touch.refl _ _).alloc _).alloc _
  have hS0 : ((w.alloc (.cells #[.int .i64 0, .slice none 0 0, .slice none 0 0, .int .i64 0] 81)).alloc (.cells #[.int .i64 0, .slice none 0 0, .slice none 0 0, .int .i64 0] 81)).heap[w.heap.size + 1]? = some (.cells #[.int .i64 0, .slice none 0 0, .slice none 0 0, .int .i64 0] 81 (0, 0)) := heap_alloc2_new _ _ _
  have hR0 : ((w.alloc (.cells #[.int .i64 0, .slice none 0 0, .slice none 0 0, .int .i64 0] 81)).alloc (.cells #[.int .i64 0, .slice none 0 0, .slice none 0 0, .int .i64 0] 81)).heap[w.heap.size]? = some (.cells #[.int .i64 0, .slice none 0 0, .slice none 0 0, .int .i64 0] 81 (0, 0)) := by
    exact ((Touch.refl [] _).alloc _).blk (heap_alloc_new _ _) (by simp)
  have hsz : ((w.alloc (.cells #[.int .i64 0, .slice none 0 0, .slice none 0 0, .int .i64 0] 81)).alloc (.cells #[.int .i64 0, .slice none 0 0, .slice none 0 0, .int .i64 0] 81)).heap.size = w.heap.size + 2 := by simp
  obtain ⟨w0, hw0⟩ : ∃ w0, w0 = ((w.alloc (.cells #[.int .i64 0, .slice none 0 0, .slice none 0 0, .int .i64 0] 81)).alloc (.cells #[.int .i64 0, .slice none 0 0, .slice none 0 0, .int .i64 0] 81)) := ⟨_, rfl⟩
  rw [← hw0] at hr2 T0 hS0 hR0 hsz ⊢
  clear hw0
  refine (scan_any A c b.length b rfl hm w0 hr2 (hh.touch T0 (by simp))).mono ?_
  rintro e w1 ⟨A1, c1, ls, vs, m, rfl, hown1, hst, hsn, ht1, hf1, hvs⟩
  have hbytes := hst.bytes hm
  have hsum : (ls.flatMap frm).length ≤ b.length := by have := congrArg List.length hbytes; rw [List.length_append] at this; omega
  clear hbytes
  have hll := len_le_sum ls
  have hs1 := ht1.size
  have hvlt : ∀ v ∈ vs, ∀ A' k c', v = .slice A' k c' → ∀ x ∈ fpo A', x < w1.heap.size := by
    intro v hv A' k c' e x hx
    obtain ⟨j, hj, hjv⟩ := List.mem_iff_getElem.1 hv
    obtain ⟨A'', c'', h1, -, -, h4⟩ := hown1.at_ j (by rw [← hown1.len]; exact hj)
    rw [List.getElem?_eq_getElem hj, hjv, e] at h1
    injection h1 with h1
    injection h1 with h1 _ _
    subst h1
    exact (h4 x hx).2
  go_wp2_with fail
  go_loopw [17] (fun i wr => ∃ (k : Nat), i = .int .i64 k ∧ k ≤ ls.length ∧ OwnBs wr A1 c1 ls vs ∧ w1.heap.size ≤ wr.heap.size ∧ ∃ Ac cc Ag cg s, SegAt w w1.heap.size ls k Ac cc Ag cg s wr) (fun i _ => ls.length - (intOf i).toNat)
  case atStart => exact ⟨0, rfl, by omega, hown1, Nat.le_refl _, none, 0, none, 0, ⟨0, [], [], 0⟩, ⟨ht1.blk hR0 (by simp), ht1.blk hS0 (by simp), Rd.nil _ _, by simp, by simp [fpo], OwnGs.nil _ _, by simp [fpo], by omega, .inl ⟨rfl, rfl⟩, by simp, by simp, by simp, T0.trans0 ht1⟩⟩
  case round =>
    obtain ⟨k, rfl, hk, hown, hown1ge, Ac, cc, Ag, cg, s, hX⟩ := hrel
    have HX := Lib.hid hX
    obtain ⟨hR, hS, hcp, hcc, hfc, hgs, hfg, hB, hat, hen, hgl, hgb, ht⟩ := hX
    rcases s with ⟨gen, cp, gs, en⟩
    simp only at hS hcp hcc hgs hen hgl hgb
    obtain ⟨s0, s1, s2, s3, z0, z1, z2, z3, hSl⟩ := blk4 hS
    obtain ⟨r0, r1, r2, r3, q0, q1, q2, q3, hRl⟩ := blk4 hR
    by_cases hlt : k < ls.length
    · have hltI : decide ((k : Int) < (ls.length : Int)) = true := by simpa using hlt
      obtain ⟨ad, Af, cf, rfl, hcell, hmem, hrf, hcf⟩ := hown.get k hlt
      have hAf1 := fun x hx => hvs _ hmem Af _ cf rfl x hx
      have hAf2 := fun x hx => hvlt _ hmem Af _ cf rfl x hx
      have hfb : (ls[k]).length ≤ b.length := Nat.le_trans (mem_le_sum ls k hlt) hsum
      have hst1 := sum_take ls k hlt
      have hst2 := sum_le ls (k + 1)
      obtain ⟨f, hfe⟩ : ∃ f, f = ls[k] := ⟨_, rfl⟩
      rw [← hfe] at hcell hrf hcf hfb hst1 hmem
      obtain ⟨F, hF⟩ : ∃ F, F = (frm f).length := ⟨_, rfl⟩
      rw [← hF] at hst1
      have hFb : en + F ≤ b.length := by omega
      have hAdd : IntKind.i64.wrap ((en : Int) + (F : Int)) = (en : Int) + F := IntWalk.i64_in _ (by omega)
      have Hst2 := Lib.hid hst1
      have Hen := Lib.hid hen
      have Hfe := Lib.hid hfe
      clear hst1 hst2 hen hfe
      by_cases hk0 : k = 0
      · subst hk0
        have hcell0 : wr.cell? ad = some (.slice Af f.length cf) := by
          have h1 := hcell
          rwa [show ad.add 0 = ad by simp [Addr.add]] at h1
        have hz : gs = [] ∧ en = 0 := by
          rcases hat with ⟨_, h⟩ | ⟨h, _⟩
          · cases h; exact ⟨rfl, rfl⟩
          · omega
        have hgen : gen = 0 := by
          rcases hat with ⟨_, h⟩ | ⟨h, _⟩
          · cases h; rfl
          · omega
        have hg0I : ((gen : Int) == 0) = true := by rw [hgen]; rfl
        have Hgen := Lib.hid hgen
        clear hgen
        have hwr2 : w.heap.size + 2 ≤ wr.heap.size := by omega
        have hAgl := hgs.lt
        have hHd := readHead_any Af cf f.length f rfl (by omega) wr hrf
        unfold HdPost at hHd
        rcases hd : rdHd f with _ | ⟨g, cpt⟩
        · rw [hd] at hHd
          have hsv : segV ls = ⟨0, [], [], 0⟩ := SgAt.none hlt (by rw [← Hfe.out]; exact hd)
          have Hsv := Lib.hid hsv
          have Hz := Lib.hid hz
          clear hd hsv hat hz
          go_wp2_with fail
          refine hHd.mono ?_
          clear hHd
          rintro e w2 ⟨rfl, ht2⟩
          have hS2 := ht2.blk hS (by simp)
          have hR2 := ht2.blk hR (by simp)
          clear s0 s1 s2 s3 z0 z1 z2 z3 hSl r0 r1 r2 r3 q0 q1 q2 q3 hRl
          obtain ⟨s0, s1, s2, s3, z0, z1, z2, z3, hSl⟩ := blk4 hS2
          obtain ⟨r0, r1, r2, r3, q0, q1, q2, q3, hRl⟩ := blk4 hR2
          have T2 := ht.trans0 ht2
          have TX : Touch [w.heap.size + 1] w2 ((w2.setCell ⟨w.heap.size + 1, 0, none⟩ (.int .i64 0)).setCell ⟨w.heap.size + 1, 1, none⟩ (.slice none 0 0)) := ((Touch.refl _ _).setCell (.inl (by simp)) _).setCell (.inl (by simp)) _
          have Hout := Lib.hid (out4 (.int .i64 0) (.slice none 0 0) (.slice Ag gs.length cg) (.int .i64 en) (TX.blk hR2 (by simp)))
          go_wp2
          (try simp only [Exit.inBlock, Exit.then])
          refine bodyPost_ret (results_cell_row rfl _ _ w.heap.size _ _ _ _ rfl Hout.out.1 Tryd.underlying81 rfl rfl) rfl ?_
          refine ⟨ls, m, none, 0, Ag, cg, by rw [Hsv.out, Hz.out.1, Hz.out.2]; rfl, hst, hsn, ?_, by rw [Hsv.out]; exact Rd.nil _ _, by rw [Hsv.out]; simp, by simp [fpo], by rw [Hsv.out]; exact GsD.nil _ _ _, by rw [Hsv.out]; exact Nat.zero_le _⟩
          exact (T2.trans TX (fun x hx => .inr (by simp at hx; omega))).trans Hout.out.2 (fun x hx => .inr (by simp at hx; omega))
        · rw [hd] at hHd
          have Hd := Lib.hid hd
          have Hat := Lib.hid hat
          have Hz := Lib.hid hz
          clear hd hat hz
          go_wp2_with fail
          refine hHd.mono ?_
          clear hHd
          rintro e w2 ⟨A4, c4, rfl, ht2, hr4, hc4, hA4, hg1, hg2⟩
          have hS2 := ht2.blk hS (by simp)
          have hR2 := ht2.blk hR (by simp)
          clear s0 s1 s2 s3 z0 z1 z2 z3 hSl r0 r1 r2 r3 q0 q1 q2 q3 hRl
          obtain ⟨s0, s1, s2, s3, z0, z1, z2, z3, hSl⟩ := blk4 hS2
          obtain ⟨r0, r1, r2, r3, q0, q1, q2, q3, hRl⟩ := blk4 hR2
          have hgne : ((g : Int) == 0) = false := by rw [beq_eq_false_iff_ne]; omega
          have TX : Touch [w.heap.size + 1] w2 ((w2.setCell ⟨w.heap.size + 1, 0, none⟩ (.int .i64 g)).setCell ⟨w.heap.size + 1, 1, none⟩ (.slice A4 cpt.length c4)) := ((Touch.refl _ _).setCell (.inl (by simp)) _).setCell (.inl (by simp)) _
          have hSX : ((w2.setCell ⟨w.heap.size + 1, 0, none⟩ (.int .i64 g)).setCell ⟨w.heap.size + 1, 1, none⟩ (.slice A4 cpt.length c4)).heap[w.heap.size + 1]? = some (.cells #[.int .i64 g, .slice A4 cpt.length c4, .slice Ag gs.length cg, .int .i64 en] 81 (0, 0)) := set_blk (set_blk hS2 0 _) 1 _
          have hA4' : 0 < cpt.length → ∀ x ∈ fpo A4, w.heap.size + 2 ≤ x ∧ x ∉ fpo Ag := fun _ x hx => ⟨by have := hA4 x hx; omega, fun hm => by have := hA4 x hx; have := hAgl x hm; omega⟩
          have hrfX := RdB.touch1 (Rd.touch0 hrf ht2) TX (fun _ x hx hm => by have := hAf1 x hx; simp at hm; omega)
          have htX := (ht.trans0 ht2).trans TX (fun x hx => .inr (by simp at hx; omega))
          have hnx : ∀ W, Touch [] ((w2.setCell ⟨w.heap.size + 1, 0, none⟩ (.int .i64 g)).setCell ⟨w.heap.size + 1, 1, none⟩ (.slice A4 cpt.length c4)) W → OwnBs (W.setCell ⟨w.heap.size + 1, 3, none⟩ (.int .i64 ((en : Int) + (F : Int)))) (some ad) c1 ls vs ∧ w1.heap.size ≤ (W.setCell ⟨w.heap.size + 1, 3, none⟩ (.int .i64 ((en : Int) + (F : Int)))).heap.size ∧ ∃ Ac cc Ag cg s, SegAt w w1.heap.size ls (0 + 1) Ac cc Ag cg s (W.setCell ⟨w.heap.size + 1, 3, none⟩ (.int .i64 ((en : Int) + (F : Int)))) := by
            intro W hW
            refine ⟨((((hown.touch0 ht2).keepIn TX (fun x hx e => by have := hf1 x hx; omega) (fun v hv A' k c' e hm => by have := hvs v hv A' k c' e _ hm; omega)).touch0 hW).keepIn ((Touch.refl [w.heap.size + 1] W).setCell (p := ⟨w.heap.size + 1, 3, none⟩) (.inl (by simp)) _) (fun x hx e => by have := hf1 x hx; omega) (fun v hv A' k c' e hm => by have := hvs v hv A' k c' e _ hm; omega)), by have z1 := ht2.size; have z2 := TX.size; have z3 := hW.size; have z4 := ((Touch.refl [w.heap.size + 1] W).setCell (p := ⟨w.heap.size + 1, 3, none⟩) (.inl (by simp)) (.int .i64 ((en : Int) + (F : Int)))).size; omega, A4, c4, Ag, cg, ⟨g, cpt, gs, en + F⟩, ?_⟩
            refine SegAt.close (TX.blk hR2 (by simp)) hSX (hr4.touch1 TX (fun h0 x hx hm => by have := (hA4' h0 x hx).1; simp at hm; omega)) hc4 hA4' ((hgs.touch0 ht2).touch TX (fun x hx hm => by have := hfg x hx; simp at hm; omega) (fun x hd _ hm => by simp at hm; omega)) hfg hB ?_ (by rw [Hst2.out, Hen.out]) (by omega) hg2 ((ht.trans0 ht2).trans TX (fun x hx => .inr (by simp at hx; omega))) hW
            have h1 := SgAt.head Hat.out hlt (by rw [← Hfe.out]; exact Hd.out) hg1
            rw [← Hfe.out, ← hF] at h1
            simp only [Hz.out.1, Hz.out.2, Nat.zero_add]
            exact h1
          have Hnx := Lib.hid hnx
          clear hnx
          have hhD := hh.touch (htX.drew) (by simp)
          obtain ⟨j0, j1, j2, j3, l0, l1, l2, l3, -⟩ := blk4 (((Touch.refl [] _).drew).blk hSX (by simp))
          have hrfD := Rd.touch0 hrfX ((Touch.refl [] _).drew)
          have hSD := ((Touch.refl [] _).drew).blk hSX (by simp)
          go_upto_region 12 with (fail)
          go_region_with (first
            | (go_at_call 58; refine (frame_any Af cf f.length f rfl (by omega) _ hrfD hhD).mono ?_; rintro e w9 ⟨A9, c9, rfl, hown9, ht9, hf9⟩; rw [← hF]; obtain ⟨y0, y1, y2, y3, u0, u1, u2, u3, -⟩ := blk4 (ht9.blk hSD (by simp))))
          all_goals
            have hnxW := Hnx.out _ ht9.ofDrew
            rw [hF] at hnxW
            go_wp2_with fail
            go_roundw
            case rel => exact ⟨0 + 1, by go_num, by omega, hnxW⟩
            case measure => simp [intOf]; omega
      · have hgen : 1 ≤ gen := by
          rcases hat with ⟨h, _⟩ | ⟨_, h, _⟩
          · omega
          · exact h
        have hg0I : ((gen : Int) == 0) = false := by rw [beq_eq_false_iff_ne]; omega
        have hGp := readGroup_any Af cf f.length f rfl (by omega) wr hrf
        unfold GpPost at hGp
        have hkp : 0 < k := by omega
        rcases hd : rdGp f with _ | ss
        · rw [hd] at hGp
          have hsv := hat.stop hkp hlt (by rw [← Hfe.out]; exact hd)
          have hfin := fun W hW => HX.out.done hsv hst hsn (W := W) hW
          have Hfin := Lib.hid hfin
          clear hd hsv hat hfin
          go_wp2_with fail
          refine hGp.mono ?_
          clear hGp
          rintro e w2 ⟨A4, c4, n4, rfl, ht2⟩
          have hS2 := ht2.blk hS (by simp)
          have hR2 := ht2.blk hR (by simp)
          clear s0 s1 s2 s3 z0 z1 z2 z3 hSl r0 r1 r2 r3 q0 q1 q2 q3 hRl
          obtain ⟨s0, s1, s2, s3, z0, z1, z2, z3, hSl⟩ := blk4 hS2
          obtain ⟨r0, r1, r2, r3, q0, q1, q2, q3, hRl⟩ := blk4 hR2
          have Hout := Lib.hid (fun a b c d => out4 a b c d hR2)
          go_wp2
          (try simp only [Exit.inBlock, Exit.then])
          refine bodyPost_ret (results_cell_row rfl _ _ w.heap.size _ _ _ _ rfl (Hout.out _ _ _ _).1 Tryd.underlying81 rfl rfl) rfl ?_
          exact Hfin.out _ ((ht2.mono (by simp)).trans (Hout.out _ _ _ _).2 (fun x hx => .inl hx))
        · rw [hd] at hGp
          have Hd := Lib.hid hd
          have Hat := Lib.hid hat
          clear hd hat
          go_wp2_with fail
          refine hGp.mono ?_
          clear hGp
          rintro e w2 ⟨A4, c4, rfl, ht2, hbs⟩
          have hS2 := ht2.blk hS (by simp)
          have hR2 := ht2.blk hR (by simp)
          clear s0 s1 s2 s3 z0 z1 z2 z3 hSl r0 r1 r2 r3 q0 q1 q2 q3 hRl
          obtain ⟨s0, s1, s2, s3, z0, z1, z2, z3, hSl⟩ := blk4 hS2
          obtain ⟨r0, r1, r2, r3, q0, q1, q2, q3, hRl⟩ := blk4 hR2
          have hsw := ht.size
          have hsw2 := ht2.size
          have hAgl := hgs.lt
          have tx := (Touch.refl [] w2).alloc (.cells #[.slice A4 ss.length c4] 49)
          have hcx : (w2.alloc (.cells #[.slice A4 ss.length c4] 49)).cell? ⟨w2.heap.size, 0, none⟩ = some (.slice A4 ss.length c4) := cell_of_one (heap_alloc_new w2 _)
          have hbs2 : BsD (fun x => w.heap.size + 2 ≤ x ∧ x ∉ fpo Ag) w2 A4 ss := hbs.mono (fun x _ hd => ⟨by omega, fun hm => by have := hAgl x hm; omega⟩)
          go_wp2_with (at_builtin; refine stop ?_)
          refine go ?_
          refine wpList_appGs rfl (.tmp 43) (.tmp 45) rfl Ag gs.length cg gs rfl rfl ((hgs.touch0 ht2).touch0 tx) w2.heap.size A4 ss.length c4 ss rfl hcx rfl (hbs2.touch0 tx) (by omega) ?_
          intro A7 c7 w7 hown7 ht7 hf7
          have hS7 := ht7.blk (tx.blk hS2 (by simp)) (fun hm => by have := hfg _ hm; omega)
          have hR7 := ht7.blk (tx.blk hR2 (by simp)) (fun hm => by have := hfg _ hm; omega)
          clear s0 s1 s2 s3 z0 z1 z2 z3 hSl r0 r1 r2 r3 q0 q1 q2 q3 hRl
          obtain ⟨s0, s1, s2, s3, z0, z1, z2, z3, hSl⟩ := blk4 hS7
          obtain ⟨r0, r1, r2, r3, q0, q1, q2, q3, hRl⟩ := blk4 hR7
          have TX : Touch [w.heap.size + 1] w7 (w7.setCell ⟨w.heap.size + 1, 2, none⟩ (.slice A7 (gs.length + 1) c7)) := (Touch.refl _ _).setCell (.inl (by simp)) _
          have hSX : (w7.setCell ⟨w.heap.size + 1, 2, none⟩ (.slice A7 (gs.length + 1) c7)).heap[w.heap.size + 1]? = some (.cells #[.int .i64 gen, .slice Ac cp.length cc, .slice A7 (gs ++ [ss]).length c7, .int .i64 en] 81 (0, 0)) := by
            rw [List.length_append]; exact set_blk hS7 2 _
          have hf7' : ∀ x ∈ fpo A7, w1.heap.size ≤ x := fun x hx => by
            rcases hf7 x hx with h1 | h1
            · exact hfg x h1
            · simp at h1
              have := hown1ge
              omega
          have T7 : Touch (fpo Ag) wr w7 := ((ht2.trans0 tx).mono (by simp)).trans ht7 (fun x hx => .inl hx)
          have hrfX := RdB.touch1 (RdB.touch1 hrf T7 (fun _ x hx hm => by have := hAf2 x hx; have := hfg x hm; omega)) TX (fun _ x hx hm => by have := hAf1 x hx; simp at hm; omega)
          have hown8 : OwnBs w7 (some ad) c1 ls vs := hown.touch (n := 0) T7 (fun x hx hm => by have := hown1.lt x hx; have := hfg x hm; omega) (fun j hj A' hr' ⟨c', hc'⟩ => Rd.touch hr' T7 (fun x hx hm => by have := hvlt _ (List.mem_of_getElem? hc') A' _ c' rfl x hx; have := hfg x hm; omega)) rfl
          have htX := (ht.trans T7 (fun x hx => .inr (by have := hfg x hx; omega))).trans TX (fun x hx => .inr (by simp at hx; omega))
          have hnx : ∀ W, Touch [] (w7.setCell ⟨w.heap.size + 1, 2, none⟩ (.slice A7 (gs.length + 1) c7)) W → OwnBs (W.setCell ⟨w.heap.size + 1, 3, none⟩ (.int .i64 ((en : Int) + (F : Int)))) (some ad) c1 ls vs ∧ w1.heap.size ≤ (W.setCell ⟨w.heap.size + 1, 3, none⟩ (.int .i64 ((en : Int) + (F : Int)))).heap.size ∧ ∃ Ac cc Ag cg s, SegAt w w1.heap.size ls (k + 1) Ac cc Ag cg s (W.setCell ⟨w.heap.size + 1, 3, none⟩ (.int .i64 ((en : Int) + (F : Int)))) := by
            intro W hW
            refine ⟨(((hown8.keepIn TX (fun x hx e => by have := hf1 x hx; omega) (fun v hv A' k c' e hm => by have := hvs v hv A' k c' e _ hm; omega)).touch0 hW).keepIn ((Touch.refl [w.heap.size + 1] W).setCell (p := ⟨w.heap.size + 1, 3, none⟩) (.inl (by simp)) _) (fun x hx e => by have := hf1 x hx; omega) (fun v hv A' k c' e hm => by have := hvs v hv A' k c' e _ hm; omega)), by have z1 := T7.size; have z2 := TX.size; have z3 := hW.size; have z4 := ((Touch.refl [w.heap.size + 1] W).setCell (p := ⟨w.heap.size + 1, 3, none⟩) (.inl (by simp)) (.int .i64 ((en : Int) + (F : Int)))).size; omega, Ac, cc, A7, c7, ⟨gen, cp, gs ++ [ss], en + F⟩, ?_⟩
            refine SegAt.close (TX.blk hR7 (by simp)) hSX (RdB.touch1 (RdB.touch1 hcp T7 (fun h0 x hx hm => (hfc h0 x hx).2 hm)) TX (fun h0 x hx hm => by have := (hfc h0 x hx).1; simp at hm; omega)) hcc (fun h0 x hx => ⟨(hfc h0 x hx).1, fun hm => by
              rcases hf7 x hm with h1 | h1
              · exact (hfc h0 x hx).2 h1
              · have := Rd.lt hcp (by simpa using h0) x hx
                simp at h1
                omega⟩) (hown7.touch TX (fun x hx hm => by have := hf7' x hx; simp at hm; omega) (fun x hd _ hm => by simp at hm; omega)) hf7' hB ?_ (by rw [Hst2.out, Hen.out]) (by rw [List.length_append]; simp; omega) hgb ((ht.trans T7 (fun x hx => .inr (by have := hfg x hx; omega))).trans TX (fun x hx => .inr (by simp at hx; omega))) hW
            have h1 := SgAt.next Hat.out hkp hlt (by rw [← Hfe.out]; exact Hd.out)
            rw [← Hfe.out, ← hF] at h1
            exact h1
          have Hnx := Lib.hid hnx
          clear hnx
          have hhD := hh.touch (htX.drew) (by simp)
          obtain ⟨j0, j1, j2, j3, l0, l1, l2, l3, -⟩ := blk4 (((Touch.refl [] _).drew).blk hSX (by simp))
          have hrfD := Rd.touch0 hrfX ((Touch.refl [] _).drew)
          have hSD := ((Touch.refl [] _).drew).blk hSX (by simp)
          go_upto_region 12 with (fail)
          go_region_with (first
            | (go_at_call 58; refine (frame_any Af cf f.length f rfl (by omega) _ hrfD hhD).mono ?_; rintro e w9 ⟨A9, c9, rfl, hown9, ht9, hf9⟩; rw [← hF]; obtain ⟨y0, y1, y2, y3, u0, u1, u2, u3, -⟩ := blk4 (ht9.blk hSD (by simp))))
          all_goals
            have hnxW := Hnx.out _ ht9.ofDrew
            rw [hF] at hnxW
            go_wp2_with fail
            go_roundw
            case rel => exact ⟨k + 1, by go_num, by omega, hnxW⟩
            case measure => simp [intOf]; omega
    · obtain rfl : k = ls.length := by omega
      have hltI : decide ((ls.length : Int) < (ls.length : Int)) = false := by simp
      have hfin := fun W hW => HX.out.done hat.all hst hsn (W := W) hW
      have Hfin := Lib.hid hfin
      have Hout := Lib.hid (fun a b c d => out4 a b c d hR)
      clear hfin hat hen
      go_wp2
      (try simp only [Exit.inBlock, Exit.then])
      refine bodyPost_ret (results_cell_row rfl _ _ w.heap.size _ _ _ _ rfl (Hout.out _ _ _ _).1 Tryd.underlying81 rfl rfl) rfl ?_
      exact Hfin.out _ (Hout.out _ _ _ _).2
end Go.Proofs.YtlcpljpeljoboaaDoor

/- Log.settle: the file that has the journal has it alone, and safe. For every disk. -/
namespace Go.Proofs.YtlcpljpeljoboaaDoor
open Go.RowKit

/-- the file is cut, or synced, or left -/
def trimV (V : Fl) (r : DR) (k en : Nat) : Int × Fl × DR :=
  if en < (V.getD k ([], 0)).1.length then pCut V r k en else if (V.getD k ([], 0)).2 < en then pSync V r k else (0, V, r)
def lSettle (s : LS) (gen en k : Nat) : Int × LS :=
  if gen = 0 then
    match pClr s.V s.r (1 - k) with
    | (e, V, r) => if e ≠ 0 then (e, ⟨V, r, s.l⟩) else lLay ⟨V, r, s.l⟩ k 1 []
  else
    match trimV s.V s.r k en with
    | (e, V, r) => if e ≠ 0 then (e, ⟨V, r, { s.l with file := k, gen := gen }⟩) else
      match pClr V r (1 - k) with
      | (e, V, r) => (e, ⟨V, r, { s.l with file := k, gen := gen }⟩)
theorem lSettle_clr {s : LS} {en k : Nat} {e : Int} {V : Fl} {r : DR} (h : (e, V, r) = pClr s.V s.r (1 - k)) (he : e ≠ 0) : lSettle s 0 en k = (e, ⟨V, r, s.l⟩) := by
  unfold lSettle; rw [if_pos rfl, ← h]; simp only; rw [if_pos he]
theorem lSettle_lay {s : LS} {en k : Nat} {V : Fl} {r : DR} (h : (0, V, r) = pClr s.V s.r (1 - k)) : lSettle s 0 en k = lLay ⟨V, r, s.l⟩ k 1 [] := by
  unfold lSettle; rw [if_pos rfl, ← h]; simp
theorem lSettle_trim {s : LS} {gen en k : Nat} (hg : gen ≠ 0) {e : Int} {V : Fl} {r : DR} (h : (e, V, r) = trimV s.V s.r k en) (he : e ≠ 0) : lSettle s gen en k = (e, ⟨V, r, { s.l with file := k, gen := gen }⟩) := by
  unfold lSettle; rw [if_neg hg, ← h]; simp only; rw [if_pos he]
theorem lSettle_end {s : LS} {gen en k : Nat} (hg : gen ≠ 0) {e : Int} {V V2 : Fl} {r r2 : DR} (h : (0, V, r) = trimV s.V s.r k en) (h2 : (e, V2, r2) = pClr V r (1 - k)) : lSettle s gen en k = (e, ⟨V2, r2, { s.l with file := k, gen := gen }⟩) := by
  unfold lSettle; rw [if_neg hg, ← h]; simp only [ne_eq, not_true_eq_false, if_false]; rw [← h2]
theorem trimV_done (V : Fl) (r : DR) (k en : Nat) : (trimV V r k en).2.2.done ≤ r.done + 1 := by
  unfold trimV
  split
  · exact pCut_done V r k en
  · split
    · exact pSync_done V r k
    · simp; omega

set_option maxRecDepth 100000 in
set_option maxHeartbeats 6400000 in
theorem settle_none (L g : Nat) (fp : List Nat) (s : LS) (k en : Nat) (hk : k < 2) (vc vg : Value) (w : World) (h : LsAt w L g fp s) (hdone : s.r.done + 5 ≤ 1073741824) :
    Calls Tryd.prog 41 #[.pointer (some ⟨L, 0, none⟩), .agg #[.int .i64 0, vc, vg, .int .i64 en], .int .i64 k] w fun e w' => e = .returned (.int .i64 (lSettle s 0 en k).1) ∧ LsStep L g fp (lSettle s 0 en k).2 w w' := by
  have T0 := (Touch.refl [] w).alloc (.cells #[.int .i64 0, vc, vg, .int .i64 en] 81)
  have h0 := h.touch0 T0
  have c0 := (blk5 h0.lg).1
  have H1 := clear_any g fp s.V s.r (1 - k) (by omega) _ h0.dk (by omega)
  have hd1 := pClr_done s.V s.r (1 - k)
  obtain ⟨x, hx⟩ : ∃ x, x = pClr s.V s.r (1 - k) := ⟨_, rfl⟩
  rw [← hx] at H1 hd1
  obtain ⟨e1, V1, r1⟩ := x
  simp only at H1 hd1
  have Hx := Lib.hid hx
  have hk1 : ((1 : Int) - (k : Int)) = ((1 - k : Nat) : Int) := by omega
  rw [← hk1] at H1
  have C1 := Lib.hid H1
  have HL := Lib.hid (And.intro h0 T0)
  have b0 := (blk4 (heap_alloc_new w (.cells #[.int .i64 0, vc, vg, .int .i64 en] 81))).1
  clear H1 hx h h0 T0 hk1
  go_enter Tryd.func41, Tryd.ntmps41
  go_wp2_with fail
  refine C1.out.mono ?_
  rintro e w1 ⟨rfl, hs1⟩
  by_cases he1 : e1 = 0
  · subst he1
    obtain ⟨fp1, hA1, hT1, hF1⟩ := HL.out.1.step hs1
    have c1 := (blk5 hA1.lg).1
    have H2 := lay_any L g fp1 ⟨V1, r1, s.l⟩ k 1 (by omega) (by omega) none 0 0 [] rfl (by omega) w1 hA1 (fun _ _ => Rd.nil _ _) (by simp only; omega)
    have H1 := Lib.hid (And.intro hT1 hF1)
    have C2 := Lib.hid H2
    clear hs1 H2 hT1 hF1 c0 b0
    obtain ⟨y, hy⟩ : ∃ y, y = lLay ⟨V1, r1, s.l⟩ k 1 [] := ⟨_, rfl⟩
    rw [← hy] at C2
    have Hy := Lib.hid hy
    clear hy
    go_wp2_with fail
    refine C2.out.mono ?_
    rintro e w2 ⟨rfl, hs2⟩
    go_wp2
    go_ret
    rw [lSettle_lay Hx.out, ← Hy.out]
    exact ⟨rfl, (LsStep.trans H1.out.1 H1.out.2 hs2).pre0 HL.out.2⟩
  · have he1b : (e1 != 0) = true := by rw [bne_iff_ne]; exact he1
    go_wp2
    go_ret
    rw [lSettle_clr Hx.out he1]
    exact ⟨rfl, (HL.out.1.step hs1).pre0 HL.out.2⟩
-- SOME
set_option maxRecDepth 100000 in
set_option maxHeartbeats 12800000 in
theorem settle_some (L g : Nat) (fp : List Nat) (s : LS) (k gen en : Nat) (hg : gen ≠ 0) (hgb : gen ≤ 9223372036854775807) (hen : en ≤ 9223372036854775807) (hk : k < 2) (vc vg : Value) (w : World) (h : LsAt w L g fp s) (hdone : s.r.done + 5 ≤ 1073741824) :
    Calls Tryd.prog 41 #[.pointer (some ⟨L, 0, none⟩), .agg #[.int .i64 gen, vc, vg, .int .i64 en], .int .i64 k] w fun e w' => e = .returned (.int .i64 (lSettle s gen en k).1) ∧ LsStep L g fp (lSettle s gen en k).2 w w' := by
  have T0 := (Touch.refl [] w).alloc (.cells #[.int .i64 gen, vc, vg, .int .i64 en] 81)
  have h0 := h.touch0 T0
  have hbx : w.heap.size ∉ fp := fun hm => by have := h.dk.lt _ hm; omega
  have hnew := heap_alloc_new w (.cells #[.int .i64 gen, vc, vg, .int .i64 en] 81)
  have hLl := h.lt
  have bL : (w.alloc (.cells #[.int .i64 gen, vc, vg, .int .i64 en] 81)).heap[L]? = some (.cells #[.pointer (some ⟨g, 0, none⟩), .int .i64 s.l.file, .int .i64 s.l.gen, .bool s.l.loose, .bool s.l.down] 79 (0, 0)) := h0.lg
  obtain ⟨d0, d1, d2, d3, x0, x1, x2, x3, -⟩ := blk4 (show (w.alloc (.cells #[.int .i64 gen, vc, vg, .int .i64 en] 81)).drew.heap[w.heap.size]? = _ from hnew)
  obtain ⟨q0, q1, q2, q3, -⟩ := blk4 hnew
  obtain ⟨s0, s1, s2, s3, s4, z0, z1, z2, z3, z4, -⟩ := blk5 (show (w.alloc (.cells #[.int .i64 gen, vc, vg, .int .i64 en] 81)).drew.heap[L]? = _ from bL)
  obtain ⟨r0, r1, r2, r3, r4, v0, v1, v2, v3, v4, -⟩ := blk5 bL
  have b1 := set_blk bL 1 (.int .i64 k)
  have y1 := (Touch.refl [L] (w.alloc (.cells #[.int .i64 gen, vc, vg, .int .i64 en] 81))).setCell (p := ⟨L, 1, none⟩) (.inl (by simp)) (.int .i64 k)
  have b2 := set_blk b1 2 (.int .i64 gen)
  have y2 := (y1.setCell (p := ⟨L, 2, none⟩) (.inl (by simp)) (.int .i64 gen)).drew
  have d0' := y1.cell q0 (by simp; omega)
  have d0'' := y1.drew.cell q0 (by simp; omega)
  have hb2 : LogAt (((w.alloc (.cells #[.int .i64 gen, vc, vg, .int .i64 en] 81)).setCell ⟨L, 1, none⟩ (.int .i64 k)).setCell ⟨L, 2, none⟩ (.int .i64 gen)).drew L g { s.l with file := k, gen := gen } := b2
  have S2 := h0.setA hb2 y2
  have d3' := y2.cell q3 (by simp; omega)
  have hk1 : ((1 : Int) - (k : Int)) = ((1 - k : Nat) : Int) := by omega
  have hg0 : ((gen : Int) == 0) = false := by rw [beq_eq_false_iff_ne]; omega
  have T2 : Touch (L :: fp) w (((w.alloc (.cells #[.int .i64 gen, vc, vg, .int .i64 en] 81)).setCell ⟨L, 1, none⟩ (.int .i64 k)).setCell ⟨L, 2, none⟩ (.int .i64 gen)).drew := (T0.mono (by simp)).trans y2 (by simp)
  have H2 := Lib.hid (And.intro S2 (And.intro d3' T2))
  clear r3 r4 v3 v4 T0 T2 h0 hnew h b2 hb2 y2 S2 d3' s3 s4 x1 x2 x3 hLl
  go_enter Tryd.func41, Tryd.ntmps41
  go_wp2_with fail
  go_region
  all_goals
    obtain ⟨W2, hW2⟩ : ∃ W2, W2 = (((w.alloc (.cells #[.int .i64 gen, vc, vg, .int .i64 en] 81)).setCell ⟨L, 1, none⟩ (.int .i64 k)).setCell ⟨L, 2, none⟩ (.int .i64 gen)).drew := ⟨_, rfl⟩
    have S2 := H2.out.1
    have e3 := H2.out.2.1
    have T2 := H2.out.2.2
    rw [← hW2] at S2 e3 T2 ⊢
    clear H2 hW2 y1 b1 bL d0 d1 d2 d3 x0 s0 s1 s2 r0 r1 r2 v0 v1 v2 z0 z1 z2 z3 z4 d0' d0'' q0 q1 q2 q3
    have H2 := Lib.hid (And.intro S2 T2)
    have c2 := (blk5 S2.lg).1
    have hV := S2.dk.facts.1
    have hsz := size_dk g fp s.V s.r k W2.drew (S2.dk.step ((Touch.refl [] W2).drew) (by simp))
    have hsf := safe_dk g fp s.V s.r k W2.drew.drew (S2.dk.step (((Touch.refl [] W2).drew).drew) (by simp))
    rw [if_pos (by omega), Int.toNat_natCast] at hsz hsf
    obtain ⟨yy, hy⟩ : ∃ yy, yy = trimV s.V s.r k en := ⟨_, rfl⟩
    have htr := hy
    unfold trimV at htr
    have hdn := trimV_done s.V s.r k en
    rw [← hy] at hdn
    obtain ⟨ln, hln⟩ : ∃ ln, ln = (s.V.getD k ([], 0)).1.length := ⟨_, rfl⟩
    obtain ⟨sf, hsfe⟩ : ∃ sf, sf = (s.V.getD k ([], 0)).2 := ⟨_, rfl⟩
    rw [← hln] at hsz htr
    rw [← hsfe] at hsf htr
    obtain ⟨e2, V2, r2⟩ := yy
    simp only at hdn
    have Hy := Lib.hid hy
    have Hsz := Lib.hid hsz
    have Hsf := Lib.hid hsf
    have e3d : W2.drew.cell? ⟨w.heap.size, 3, none⟩ = some (.int .i64 en) := e3
    have c2d : W2.drew.cell? ⟨L, 0, none⟩ = some (.pointer (some ⟨g, 0, none⟩)) := c2
    have e3dd : W2.drew.drew.cell? ⟨w.heap.size, 3, none⟩ = some (.int .i64 en) := e3
    have c2dd : W2.drew.drew.cell? ⟨L, 0, none⟩ = some (.pointer (some ⟨g, 0, none⟩)) := c2
    have hnL := S2.ap
    clear hsz hsf S2 T2 hV hln hsfe hy
    by_cases hcut : en < ln
    · rw [if_pos hcut] at htr
      have C3 := cut_dk g fp s.V s.r k en W2.drew.drew (H2.out.1.dk.step (((Touch.refl [] W2).drew).drew) (by simp)) (by omega)
      rw [← htr] at C3
      simp only at C3
      have H3 := Lib.hid C3
      clear C3 htr
      have hcutI : decide (en < ln) = true := by simpa using hcut
      have hcutJ : decide ((en : Int) < (ln : Int)) = true := by simpa using hcut
      go_wp2_with fail
      go_region_held3 (fun w' => w'.cell? ⟨L, 0, none⟩ = some (.pointer (some ⟨g, 0, none⟩)) ∧ w'.cell? ⟨w.heap.size, 3, none⟩ = some (.int .i64 en)) (exact ⟨c2d, e3d⟩) ((go_at_call 12; refine Hsz.out.mono ?_; rintro e w9 ⟨rfl, rfl⟩))
      go_wp2_with fail
      go_region_held3 (fun w' => w'.cell? ⟨L, 0, none⟩ = some (.pointer (some ⟨g, 0, none⟩)) ∧ w'.cell? ⟨w.heap.size, 3, none⟩ = some (.int .i64 en)) (first | exact ⟨c2dd, e3dd⟩ | exact ⟨c3, e33⟩) ((go_at_call 59; refine H3.out.mono ?_; rintro e w3 ⟨rfl, hs3⟩; have c3 := hs3.cell c2dd hnL; have e33 := hs3.cell e3dd hbx))
      clear c3 e33
      have S3 : LsStep L g fp ⟨V2, r2, { s.l with file := k, gen := gen }⟩ w w3 := LsStep.trans H2.out.2 (fun _ hb => .inl hb) (((H2.out.1.touch0 (((Touch.refl [] W2).drew).drew)).step hs3).ofDrew.ofDrew)
      clear hs3 e3 e3d e3dd c2 c2d c2dd
      by_cases he2 : e2 = 0
      · subst he2
        obtain ⟨fp3, hA3, hT3, hF3⟩ := S3
        have c3 := (blk5 hA3.lg).1
        have H4 := clear_any g fp3 V2 r2 (1 - k) (by omega) w3 hA3.dk (by omega)
        obtain ⟨z, hz⟩ : ∃ z, z = pClr V2 r2 (1 - k) := ⟨_, rfl⟩
        rw [← hz] at H4
        obtain ⟨e4, V4, r4⟩ := z
        have C4 := Lib.hid H4
        have Hz := Lib.hid hz
        have H3 := Lib.hid (And.intro hA3 (And.intro hT3 hF3))
        clear H4 hz hA3 hT3 hF3
        go_wp2_with fail
        refine C4.out.mono ?_
        rintro e w4 ⟨rfl, hs4⟩
        go_wp2
        go_ret
        rw [lSettle_end hg Hy.out Hz.out]
        exact ⟨rfl, LsStep.trans H3.out.2.1 H3.out.2.2 (H3.out.1.step hs4)⟩
      · have he2b : (e2 != 0) = true := by rw [bne_iff_ne]; exact he2
        go_wp2
        go_ret
        rw [lSettle_trim hg Hy.out he2]
        exact ⟨rfl, S3⟩
    · rw [if_neg hcut] at htr
      have hcutI : decide (en < ln) = false := by simpa using Nat.le_of_not_lt hcut
      have hcutJ : decide ((en : Int) < (ln : Int)) = false := by simpa using Nat.le_of_not_lt hcut
      by_cases hsy : sf < en
      · rw [if_pos hsy] at htr
        have C3 := sync_dk g fp s.V s.r k W2.drew.drew (H2.out.1.dk.step (((Touch.refl [] W2).drew).drew) (by simp)) (by omega)
        rw [← htr] at C3
        simp only at C3
        have H3 := Lib.hid C3
        clear C3 htr
        have hsyI : decide (sf < en) = true := by simpa using hsy
        have hsyJ : decide ((sf : Int) < (en : Int)) = true := by simpa using hsy
        go_wp2_with fail
        go_region_held3 (fun w' => w'.cell? ⟨L, 0, none⟩ = some (.pointer (some ⟨g, 0, none⟩)) ∧ w'.cell? ⟨w.heap.size, 3, none⟩ = some (.int .i64 en)) (exact ⟨c2d, e3d⟩) ((go_at_call 12; refine Hsz.out.mono ?_; rintro e w9 ⟨rfl, rfl⟩))
        go_wp2_with fail
        go_region_held3 (fun w' => w'.cell? ⟨L, 0, none⟩ = some (.pointer (some ⟨g, 0, none⟩)) ∧ w'.cell? ⟨w.heap.size, 3, none⟩ = some (.int .i64 en)) (exact ⟨c2dd, e3dd⟩) ((go_at_call 16; refine Hsf.out.mono ?_; rintro e w9 ⟨rfl, rfl⟩))
        go_wp2_with fail
        refine H3.out.mono ?_
        rintro e w3 ⟨rfl, hs3⟩
        have S3 : LsStep L g fp ⟨V2, r2, { s.l with file := k, gen := gen }⟩ w w3 := LsStep.trans H2.out.2 (fun _ hb => .inl hb) (((H2.out.1.touch0 (((Touch.refl [] W2).drew).drew)).step hs3).ofDrew.ofDrew)
        clear hs3 e3 e3d e3dd c2 c2d c2dd
        by_cases he2 : e2 = 0
        · subst he2
          obtain ⟨fp3, hA3, hT3, hF3⟩ := S3
          have c3 := (blk5 hA3.lg).1
          have H4 := clear_any g fp3 V2 r2 (1 - k) (by omega) w3 hA3.dk (by omega)
          obtain ⟨z, hz⟩ : ∃ z, z = pClr V2 r2 (1 - k) := ⟨_, rfl⟩
          rw [← hz] at H4
          obtain ⟨e4, V4, r4⟩ := z
          have C4 := Lib.hid H4
          have Hz := Lib.hid hz
          have H3 := Lib.hid (And.intro hA3 (And.intro hT3 hF3))
          clear H4 hz hA3 hT3 hF3
          go_wp2_with fail
          refine C4.out.mono ?_
          rintro e w4 ⟨rfl, hs4⟩
          go_wp2
          go_ret
          rw [lSettle_end hg Hy.out Hz.out]
          exact ⟨rfl, LsStep.trans H3.out.2.1 H3.out.2.2 (H3.out.1.step hs4)⟩
        · have he2b : (e2 != 0) = true := by rw [bne_iff_ne]; exact he2
          go_wp2
          go_ret
          rw [lSettle_trim hg Hy.out he2]
          exact ⟨rfl, S3⟩
      · rw [if_neg hsy] at htr
        injection htr with htr1 htr2
        injection htr2 with htr2 htr3
        subst htr1 htr2 htr3
        have hsyI : decide (sf < en) = false := by simpa using Nat.le_of_not_lt hsy
        have hsyJ : decide ((sf : Int) < (en : Int)) = false := by simpa using Nat.le_of_not_lt hsy
        obtain ⟨w3, hw3⟩ : ∃ w3, w3 = W2.drew.drew := ⟨_, rfl⟩
        have S3 : LsStep L g fp ⟨s.V, s.r, { s.l with file := k, gen := gen }⟩ w w3 := LsStep.trans H2.out.2 (fun _ hb => .inl hb) (hw3 ▸ ((H2.out.1.keep (((Touch.refl [] W2).drew).drew))))
        go_wp2_with fail
        go_region_held3 (fun w' => w'.cell? ⟨L, 0, none⟩ = some (.pointer (some ⟨g, 0, none⟩)) ∧ w'.cell? ⟨w.heap.size, 3, none⟩ = some (.int .i64 en)) (exact ⟨c2d, e3d⟩) ((go_at_call 12; refine Hsz.out.mono ?_; rintro e w9 ⟨rfl, rfl⟩))
        go_wp2_with fail
        go_region_held3 (fun w' => w'.cell? ⟨L, 0, none⟩ = some (.pointer (some ⟨g, 0, none⟩)) ∧ w'.cell? ⟨w.heap.size, 3, none⟩ = some (.int .i64 en)) (exact ⟨c2dd, e3dd⟩) ((go_at_call 16; refine Hsf.out.mono ?_; rintro e w9 ⟨rfl, rfl⟩))
        rw [← hw3]
        clear hw3 e3 e3d e3dd c2 c2d c2dd
        obtain ⟨fp3, hA3, hT3, hF3⟩ := S3
        have c3 := (blk5 hA3.lg).1
        have H4 := clear_any g fp3 s.V s.r (1 - k) (by omega) w3 hA3.dk (by omega)
        obtain ⟨z, hz⟩ : ∃ z, z = pClr s.V s.r (1 - k) := ⟨_, rfl⟩
        rw [← hz] at H4
        obtain ⟨e4, V4, r4⟩ := z
        have C4 := Lib.hid H4
        have Hz := Lib.hid hz
        have H3 := Lib.hid (And.intro hA3 (And.intro hT3 hF3))
        clear H4 hz hA3 hT3 hF3
        go_wp2_with fail
        refine C4.out.mono ?_
        rintro e w4 ⟨rfl, hs4⟩
        go_wp2
        go_ret
        rw [lSettle_end hg Hy.out Hz.out]
        exact ⟨rfl, LsStep.trans H3.out.2.1 H3.out.2.2 (H3.out.1.step hs4)⟩
end Go.Proofs.YtlcpljpeljoboaaDoor
