/- Part 7 of the texts of this proof, one behind the other; each begins with its own sentence. No condition beyond those that its theorems state. -/
import Derived.Test.YtgpadejkmpfafaaDoorFp6
import Derived.Deep.DeepCutAuto
import Derived.Deep.DrawnRows
import Derived.Test.YtgpadejkmpfafaaDoorRows
import Derived.Deep.DeepHandedRow
import Derived.Lib.LaidTab
/- bywashlaw07.FrameParses: the walk of the law. For every slice of bytes; the half bytes' table as the program's text lays it. -/
namespace Go.Proofs.YtgpadejkmpfafaaDoor
open Go.RowKit
attribute [local go_sem ↓] Go.wp_at_zero Go.wp_at_succ

/-- what a reading of a table comes to, whatever it is -/
theorem table_uni {g : Nat} {A : Option Addr} {l : List UInt8} {w w' : World} {e : Ending} (h : TablePost g A l false w e w') :
    ∃ (SA SB : Option Addr) (c1 c2 : Nat) (cs : List CD) (rows : List (List VD)) (l' : List UInt8) (bi : Bool), e = .returned (.agg #[.slice SA cs.length c1, .slice SB rows.length c2]) ∧
      (∀ fp w2, Touch fp w' w2 → (∀ b ∈ fp, b < w.heap.size) → ColsAt w2 SA cs ∧ RowsAt w2 SB rows) ∧ InPost g A l' bi w w' ∧ (bi = true → cs = [] ∧ rows = []) ∧ (bi = false → rdTab l = some ((cs, rows), l')) := by
  rcases h with ⟨rfl, ⟨l', hp⟩, _⟩ | ⟨_, cs, rows, l', SA, c1, SB, c2, h1, rfl, hC, hp⟩
  · exact ⟨none, none, 0, 0, [], [], l', true, rfl, fun fp w2 _ _ => ⟨RdK.nil _ _ _, ⟨[], ⟨rfl, fun i h => by simp at h⟩, RdK.nil _ _ _⟩⟩, hp, fun _ => ⟨rfl, rfl⟩, (fun h => by cases h)⟩
  · exact ⟨SA, SB, c1, c2, cs, rows, l', false, rfl, hC, hp, (fun h => by cases h), fun _ => h1⟩
theorem value_uni {g : Nat} {A : Option Addr} {l : List UInt8} {w w' : World} {e : Ending} (h : ValuePost g A l w e w') :
    ∃ (v : VD) (l' : List UInt8) (bk : Bool), e = .returned v.val ∧ InPost g A l' bk w w' ∧ (bk = true → v = zeroVD) ∧ (bk = false → rdV l = some (v, l')) := by
  unfold ValuePost at h
  rcases hr : rdV l with _ | ⟨v, l'⟩
  · rw [hr] at h
    obtain ⟨rfl, l', hp⟩ := h
    exact ⟨zeroVD, l', true, rfl, hp, fun _ => rfl, (fun h => by cases h)⟩
  · rw [hr] at h
    exact ⟨v, l', false, h.1, h.2, (fun h => by cases h), fun _ => rfl⟩
theorem tab_bounds {b : List UInt8} {cs : List CD} {rows : List (List VD)} (hb : b.length ≤ 1000) (h : rdTab b = some ((cs, rows), [])) :
    b = encTab cs rows ∧ checkT cs rows = 0 ∧ (cs.length ≤ 20 ∧ ∀ c ∈ cs, c.Ok ∧ c.name.size ≤ 1000) ∧ (rows.length ≤ 4096 ∧ ∀ r ∈ rows, r.length ≤ 20 ∧ ∀ v ∈ r, v.Ok 140737000000000 ∧ v.text.size ≤ 1000) ∧ RowsOk rows := by
  obtain ⟨h1, h2, h3, h4, h5, h6, h7⟩ := rdTab_bytes (by omega) h
  rw [List.append_nil] at h1
  obtain ⟨k1, k2, k3⟩ := checkT_zero h2
  obtain ⟨_, _, z3⟩ := check_zero k1
  refine ⟨h1, h2, ⟨by omega, fun c hc => ⟨h5 c hc, ?_⟩⟩, ⟨h6, fun r hr => ⟨?_, fun v hv => ⟨(h7 r hr).2 v hv, ?_⟩⟩⟩, h7⟩
  · obtain ⟨i, hi, rfl⟩ := List.mem_iff_getElem.1 hc
    have hn := (z3 i hi).1
    have hsz := size_toList cs[i].name
    have key : ∀ s : List UInt8, nameV s = true → s.length ≤ 16 := fun s hs => by
      unfold nameV at hs
      split at hs
      · cases hs
      · rw [Bool.and_eq_true] at hs
        exact of_decide_eq_true hs.1
    have := key _ hn
    omega
  · have := (fitR_right (k3 r hr)).1; omega
  · have hr1 := (fitR_right (k3 r hr)).2 v hv
    have ho := (h7 r hr).2 v hv
    have := (right_ok hr1 ⟨ho.k, ho.n, by have := ho.t; omega⟩).2
    omega
theorem val_bounds {b : List UInt8} {v : VD} (hb : b.length ≤ 1000) (h : rdV b = some (v, [])) : b = encV v ∧ v.right = true ∧ v.Ok 140737000000000 := by
  have h1 := rdV_bytes h
  rw [List.append_nil] at h1
  exact ⟨h1, rdV_right h, (rdV_ok h (by omega)).1⟩

/-- what the law has read -/
structure PR (b : List UInt8) (g1 g2 x1 x2 : Nat) (A1 A2 : Option Addr) (l1 l2 : List UInt8) (bi bk : Bool) (SA SB : Option Addr) (c1 c2 : Nat) (cs : List CD) (rows : List (List VD)) (v : VD) (w wr : World) : Prop where
  t : Touch [] w wr
  i : InAt wr g1 A1 l1 bi
  k : InAt wr g2 A2 l2 bk
  hc : ColsAt wr SA cs
  hr : RowsAt wr SB rows
  ti : bi = true → cs = [] ∧ rows = []
  tn : bi = false → rdTab b = some ((cs, rows), l1)
  vi : bk = true → v = zeroVD
  vn : bk = false → rdV b = some (v, l2)
  box1 : wr.heap[x1]? = some (.cells #[.slice SA cs.length c1, .slice SB rows.length c2] 56 (0, 0))
  box2 : wr.heap[x2]? = some (.cells #[.int .i64 v.kind, .int .i64 v.num, .string v.text] 59 (0, 0))
  gs : w.heap.size ≤ g1
  ap : g1 < g2 ∧ (∀ x ∈ fpo A2, g1 < x) ∧ g1 < x1 ∧ g1 < x2
section
variable {b : List UInt8} {g1 g2 x1 x2 : Nat} {A1 A2 : Option Addr} {l1 l2 : List UInt8} {bi bk : Bool} {SA SB : Option Addr} {c1 c2 : Nat} {cs : List CD} {rows : List (List VD)} {v : VD} {w wr : World}
theorem PR.touch0 (h : PR b g1 g2 x1 x2 A1 A2 l1 l2 bi bk SA SB c1 c2 cs rows v w wr) {w' : World} (ht : Touch [] wr w') : PR b g1 g2 x1 x2 A1 A2 l1 l2 bi bk SA SB c1 c2 cs rows v w w' :=
  ⟨h.t.trans0 ht, h.i.touch ht (by simp) (fun _ _ => by simp), h.k.touch ht (by simp) (fun _ _ => by simp), h.hc.touch0 ht, h.hr.touch0 ht, h.ti, h.tn, h.vi, h.vn, ht.blk h.box1 (by simp), ht.blk h.box2 (by simp), h.gs, h.ap⟩
theorem PR.cells (h : PR b g1 g2 x1 x2 A1 A2 l1 l2 bi bk SA SB c1 c2 cs rows v w wr) : wr.cell? ⟨x1, 0, none⟩ = some (.slice SA cs.length c1) ∧ wr.cell? ⟨x1, 1, none⟩ = some (.slice SB rows.length c2) ∧
    wr.cell? ⟨x2, 0, none⟩ = some (.int .i64 v.kind) ∧ wr.cell? ⟨x2, 1, none⟩ = some (.int .i64 v.num) ∧ wr.cell? ⟨x2, 2, none⟩ = some (.string v.text) :=
  ⟨cell_blk h.box1 rfl, cell_blk h.box1 rfl, cell_blk h.box2 rfl, cell_blk h.box2 rfl, cell_blk h.box2 rfl⟩
end

set_option maxRecDepth 100000 in
set_option maxHeartbeats 12800000 in
theorem fparses_law (A : Option Addr) (c : Nat) (b : List UInt8) (w : World) (hl : b.length ≤ maxLen) (hr : RdB w A b) (hh : HalfAt w) :
    Calls Tryd.prog 7 #[.slice A b.length c] w fun e w' => e = .returned (.bool true) ∧ Touch [] w w' := by
  unfold maxLen at hl
  have Haw := Lib.hid fun w' (t : Touch [] w w') => awake_any w' (hh.touch t (by simp))
  by_cases h1000 : 1000 < b.length
  · go_enter Tryd.func7, Tryd.ntmps7
    go_wp2_with fail
    refine (Haw.out _ (Touch.refl _ _)).mono ?_
    rintro e w1 ⟨rfl, t1⟩
    go_wp2
    go_ret
    exact ⟨rfl, t1⟩
  have hb : b.length ≤ 1000 := by omega
  go_enter Tryd.func7, Tryd.ntmps7
  go_wp2_with fail
  refine (newIn2_any A b.length c b rfl (by omega) w hr).mono ?_
  rintro e w1 ⟨g1, A1, rfl, hi1, t1, hg1, hf1⟩
  go_wp2_with fail
  refine (newIn2_any A b.length c b rfl (by omega) w1 (Rd.touch0 hr t1)).mono ?_
  rintro e w2 ⟨g2, A2, rfl, hi2, t2, hg2, hf2⟩
  have hgl1 : g1 < w1.heap.size := by obtain ⟨c, hc, hg, hgl, _⟩ := hi1.mk'; exact hgl
  have hgl2 : g2 < w2.heap.size := by obtain ⟨c, hc, hg, hgl, _⟩ := hi2.mk'; exact hgl
  have hi1' := hi1.touch t2 (by simp) (fun _ _ => by simp)
  have s1 := t1.size
  have s2 := t2.size
  clear hi1
  go_wp2_with fail
  refine (inTable_any g1 A1 b false w2 hi1' (fun x hx => by have := hf1 x hx; omega) (by omega)).mono ?_
  rintro e w3 hp
  obtain ⟨SA, SB, c1, c2, cs, rows, l1, bi, rfl, hCR, ⟨B1, hi3, t3, hf3⟩, hti, htn⟩ := table_uni hp
  have hi2' := hi2.touch t3 (by simp; omega) (fun x hx => by have := hf2 x hx; simp; omega)
  have s3 := t3.size
  clear hp hi1' hi2
  go_wp2_with fail
  refine (inValue_ok g2 A2 b w3 hi2' (fun x hx => by have := hf2 x hx; omega) (by omega)).mono ?_
  rintro e w4 hp
  obtain ⟨v, l2, bk, rfl, ⟨B2, hi4, t4, hf4⟩, hvi, hvn⟩ := value_uni hp
  have hi3' := hi3.touch t4 (by simp; omega) (fun x hx => by have := hf1 x (hf3 x hx); simp; omega)
  obtain ⟨hC4, hR4⟩ := hCR [g2] w4 t4 (by simp; omega)
  have T4 : Touch [] w w4 := ((t1.trans0 t2).trans t3 (fun x hx => .inr (by simp at hx; omega))).trans t4 (fun x hx => .inr (by simp at hx; omega))
  have s4 := t4.size
  obtain ⟨k1, n1, sv⟩ := v
  simp only [VD.val]
  have ta := ((Touch.refl [] w4).alloc (.cells #[.slice SA cs.length c1, .slice SB rows.length c2] 56)).alloc (.cells #[.int .i64 k1, .int .i64 n1, .string sv] 59)
  have hbT := ((Touch.refl [] (w4.alloc (.cells #[.slice SA cs.length c1, .slice SB rows.length c2] 56))).alloc (.cells #[.int .i64 k1, .int .i64 n1, .string sv] 59)).blk (heap_alloc_new w4 (.cells #[.slice SA cs.length c1, .slice SB rows.length c2] 56)) (by simp)
  have hbV := heap_alloc_new (w4.alloc (.cells #[.slice SA cs.length c1, .slice SB rows.length c2] 56)) (.cells #[.int .i64 k1, .int .i64 n1, .string sv] 59)
  rw [World.size_alloc] at hbV
  have P0 : Hid (PR b g1 g2 w4.heap.size (w4.heap.size + 1) B1 B2 l1 l2 bi bk SA SB c1 c2 cs rows ⟨k1, n1, sv⟩ w ((w4.alloc (.cells #[.slice SA cs.length c1, .slice SB rows.length c2] 56)).alloc (.cells #[.int .i64 k1, .int .i64 n1, .string sv] 59))) := Lib.hid
    ⟨T4.trans0 ta, hi3'.touch ta (by simp) (fun _ _ => by simp), hi4.touch ta (by simp) (fun _ _ => by simp), hC4.touch0 ta, hR4.touch0 ta, hti, htn, hvi, hvn, hbT, hbV, by omega, by omega, (fun x hx => by have := (hf2 x (hf4 x hx)).1; omega), by omega, by omega⟩
  clear hp hi2' hi3 hi3' hi4 hC4 hR4 T4 hbT hbV ta t1 t2 t3 t4 hCR hti htn hvi hvn hf1 hf2 hf3 hf4 hg1 hg2 hgl1 hgl2 s1 s2 s3 s4
  go_upto_region 5 with (fail)
  go_cut [51] (fun z wx => z = .bool false ∧ PR b g1 g2 w4.heap.size (w4.heap.size + 1) B1 B2 l1 l2 bi bk SA SB c1 c2 cs rows ⟨k1, n1, sv⟩ w wx)
  case first =>
    obtain ⟨W5, hW5⟩ : ∃ W5, W5 = ((w4.alloc (.cells #[.slice SA cs.length c1, .slice SB rows.length c2] 56)).alloc (.cells #[.int .i64 k1, .int .i64 n1, .string sv] 59)) := ⟨_, rfl⟩
    rw [← hW5] at P0 ⊢
    clear hW5
    have P1 := P0.out.touch0 (Touch.refl [] W5).drew
    have hi := P1.i
    have hk := P1.k
    have hbS : ∀ w', Touch [] w w' → (convert 22 9 (.slice A b.length c)).run Tryd.prog w' = .ok (.string (S b)) w' := fun w' t => run_str_of c rfl (Rd.touch0 hr t)
    obtain ⟨k0c, k1c, v0c, v1c, v2c⟩ := P1.cells
    have kbc := hbS _ P1.t
    have HbS := Lib.hid hbS
    have hDi := done_any g1 B1 l1 bi _ hi
    have hDk := fun wx (p : PR b g1 g2 w4.heap.size (w4.heap.size + 1) B1 B2 l1 l2 bi bk SA SB c1 c2 cs rows ⟨k1, n1, sv⟩ w wx) => done_any g2 B2 l2 bk _ p.k
    clear hbS hi hk
    rcases hdi : (!bi && decide (l1.length = 0)) with _ | _
    · rcases hdk : (!bk && decide (l2.length = 0)) with _ | _
      · rw [hdi] at hDi
        rw [hdk] at hDk
        have HDi := Lib.hid hDi
        have HDk := Lib.hid hDk
        clear hDi hDk hdi hdk
        refine wp_region_held_drew (S := fun w' => w'.cell? ⟨w4.heap.size, 0, none⟩ = some (.slice SA cs.length c1) ∧ w'.cell? ⟨w4.heap.size, 1, none⟩ = some (.slice SB rows.length c2) ∧ w'.cell? ⟨w4.heap.size + 1, 0, none⟩ = some (.int .i64 k1) ∧ w'.cell? ⟨w4.heap.size + 1, 1, none⟩ = some (.int .i64 n1) ∧ w'.cell? ⟨w4.heap.size + 1, 2, none⟩ = some (.string sv) ∧ (convert 22 9 (.slice A b.length c)).run Tryd.prog w' = .ok (.string (S b)) w') (by kernel_rfl) ⟨k0c, k1c, v0c, v1c, v2c, kbc⟩ (fun hHeld => ?_)
        refine take_d (i := 0) (d := 19) (v := ?_) rfl rfl (by kernel_rfl) (by kernel_rfl) (by kernel_rfl) (fun _ _ _ h => h) (Or.inl ⟨by rfl, ?_⟩) (by assumption) ?_
        rotate_left
        · intro w hSw; (try dsimp only at hSw); go_simp; (try with_reducible rfl)
        try simp only [Act.put, List.setIfInBounds_toArray, List.set_cons_zero, List.set_cons_succ]
        have ka0 := k0c
        have kb0 := k1c
        have va0 := v0c
        have vb0 := v1c
        have vc0 := v2c
        have kk0 := kbc
        clear k0c k1c v0c v1c v2c kbc
        refine wpAnyH_ready (rs := [1]) (by kernel_rfl) (by simp) ?_
        refine AllReadyH.cons rfl (fun K hK => ?_) AllReadyH.nil
        go_simp
        go_at_call 20
        refine (HDi.out).mono ?_
        rintro e w' ⟨rfl, rfl⟩
        have P2 := P1
        have ka1 := ka0
        have kb1 := kb0
        have va1 := va0
        have vb1 := vb0
        have vc1 := vc0
        have kk1 := kk0
        (try go_wp2_with fail)
        refine hK.out _ _ ⟨ka1, kb1, va1, vb1, vc1, kk1⟩ (fun _h1 => ?_)
        clear hK K
        try simp only [Act.put, List.setIfInBounds_toArray, List.set_cons_zero, List.set_cons_succ]
        refine take_d (i := 2) (d := 21) (v := ?_) rfl rfl (by kernel_rfl) (by kernel_rfl) (by kernel_rfl) (fun _ _ _ h => h) (Or.inl ⟨by rfl, ?_⟩) (by assumption) ?_
        rotate_left
        · intro w hSw; (try dsimp only at hSw); go_simp; (try with_reducible rfl)
        try simp only [Act.put, List.setIfInBounds_toArray, List.set_cons_zero, List.set_cons_succ]
        refine take_d (i := 3) (d := 22) (v := undef) rfl rfl (by kernel_rfl) (by kernel_rfl) (by kernel_rfl) (fun _ _ _ h => h) (Or.inr ⟨by rfl, rfl⟩) (by assumption) ?_
        try simp only [Act.put, List.setIfInBounds_toArray, List.set_cons_zero, List.set_cons_succ]
        refine take_d (i := 4) (d := 23) (v := undef) rfl rfl (by kernel_rfl) (by kernel_rfl) (by kernel_rfl) (fun _ _ _ h => h) (Or.inr ⟨by rfl, rfl⟩) (by assumption) ?_
        try simp only [Act.put, List.setIfInBounds_toArray, List.set_cons_zero, List.set_cons_succ]
        refine take_d (i := 5) (d := 24) (v := undef) rfl rfl (by kernel_rfl) (by kernel_rfl) (by kernel_rfl) (fun _ _ _ h => h) (Or.inr ⟨by rfl, rfl⟩) (by assumption) ?_
        try simp only [Act.put, List.setIfInBounds_toArray, List.set_cons_zero, List.set_cons_succ]
        refine take_d (i := 6) (d := 25) (v := undef) rfl rfl (by kernel_rfl) (by kernel_rfl) (by kernel_rfl) (fun _ _ _ h => h) (Or.inr ⟨by rfl, rfl⟩) (by assumption) ?_
        try simp only [Act.put, List.setIfInBounds_toArray, List.set_cons_zero, List.set_cons_succ]
        refine take_d (i := 7) (d := 26) (v := undef) rfl rfl (by kernel_rfl) (by kernel_rfl) (by kernel_rfl) (fun _ _ _ h => h) (Or.inr ⟨by rfl, rfl⟩) (by assumption) ?_
        try simp only [Act.put, List.setIfInBounds_toArray, List.set_cons_zero, List.set_cons_succ]
        refine take_d (i := 8) (d := 27) (v := undef) rfl rfl (by kernel_rfl) (by kernel_rfl) (by kernel_rfl) (fun _ _ _ h => h) (Or.inr ⟨by rfl, rfl⟩) (by assumption) ?_
        try simp only [Act.put, List.setIfInBounds_toArray, List.set_cons_zero, List.set_cons_succ]
        refine take_d (i := 9) (d := 28) (v := undef) rfl rfl (by kernel_rfl) (by kernel_rfl) (by kernel_rfl) (fun _ _ _ h => h) (Or.inr ⟨by rfl, rfl⟩) (by assumption) ?_
        try simp only [Act.put, List.setIfInBounds_toArray, List.set_cons_zero, List.set_cons_succ]
        refine take_d (i := 10) (d := 29) (v := undef) rfl rfl (by kernel_rfl) (by kernel_rfl) (by kernel_rfl) (fun _ _ _ h => h) (Or.inr ⟨by rfl, rfl⟩) (by assumption) ?_
        try simp only [Act.put, List.setIfInBounds_toArray, List.set_cons_zero, List.set_cons_succ]
        refine take_d (i := 11) (d := 30) (v := undef) rfl rfl (by kernel_rfl) (by kernel_rfl) (by kernel_rfl) (fun _ _ _ h => h) (Or.inr ⟨by rfl, rfl⟩) (by assumption) ?_
        try simp only [Act.put, List.setIfInBounds_toArray, List.set_cons_zero, List.set_cons_succ]
        refine take_d (i := 12) (d := 31) (v := undef) rfl rfl (by kernel_rfl) (by kernel_rfl) (by kernel_rfl) (fun _ _ _ h => h) (Or.inr ⟨by rfl, rfl⟩) (by assumption) ?_
        try simp only [Act.put, List.setIfInBounds_toArray, List.set_cons_zero, List.set_cons_succ]
        refine take_d (i := 13) (d := 32) (v := undef) rfl rfl (by kernel_rfl) (by kernel_rfl) (by kernel_rfl) (fun _ _ _ h => h) (Or.inr ⟨by rfl, rfl⟩) (by assumption) ?_
        try simp only [Act.put, List.setIfInBounds_toArray, List.set_cons_zero, List.set_cons_succ]
        refine take_d (i := 14) (d := 33) (v := ?_) rfl rfl (by kernel_rfl) (by kernel_rfl) (by kernel_rfl) (fun _ _ _ h => h) (Or.inl ⟨by rfl, ?_⟩) (by assumption) ?_
        rotate_left
        · intro w hSw; (try dsimp only at hSw); go_simp; (try with_reducible rfl)
        try simp only [Act.put, List.setIfInBounds_toArray, List.set_cons_zero, List.set_cons_succ]
        refine take_d (i := 15) (d := 34) (v := ?_) rfl rfl (by kernel_rfl) (by kernel_rfl) (by kernel_rfl) (fun _ _ _ h => h) (Or.inl ⟨by rfl, ?_⟩) (by assumption) ?_
        rotate_left
        · intro w hSw; (try dsimp only at hSw); go_simp; (try with_reducible rfl)
        try simp only [Act.put, List.setIfInBounds_toArray, List.set_cons_zero, List.set_cons_succ]
        refine take_d (i := 16) (d := 35) (v := ?_) rfl rfl (by kernel_rfl) (by kernel_rfl) (by kernel_rfl) (fun _ _ _ h => h) (Or.inl ⟨by rfl, ?_⟩) (by assumption) ?_
        rotate_left
        · intro w hSw; (try dsimp only at hSw); go_simp; (try with_reducible rfl)
        try simp only [Act.put, List.setIfInBounds_toArray, List.set_cons_zero, List.set_cons_succ]
        refine wpAnyH_ready (rs := [17]) (by kernel_rfl) (by simp) ?_
        refine AllReadyH.cons rfl (fun K hK => ?_) AllReadyH.nil
        go_simp
        go_at_call 20
        refine (HDk.out _ P2).mono ?_
        rintro e w' ⟨rfl, rfl⟩
        have P3 := P2
        have ka2 := ka1
        have kb2 := kb1
        have va2 := va1
        have vb2 := vb1
        have vc2 := vc1
        have kk2 := kk1
        (try go_wp2_with fail)
        refine hK.out _ _ ⟨ka2, kb2, va2, vb2, vc2, kk2⟩ (fun _h2 => ?_)
        clear hK K
        try simp only [Act.put, List.setIfInBounds_toArray, List.set_cons_zero, List.set_cons_succ]
        refine take_d (i := 18) (d := 37) (v := ?_) rfl rfl (by kernel_rfl) (by kernel_rfl) (by kernel_rfl) (fun _ _ _ h => h) (Or.inl ⟨by rfl, ?_⟩) (by assumption) ?_
        rotate_left
        · intro w hSw; (try dsimp only at hSw); go_simp; (try with_reducible rfl)
        try simp only [Act.put, List.setIfInBounds_toArray, List.set_cons_zero, List.set_cons_succ]
        refine take_d (i := 19) (d := 38) (v := undef) rfl rfl (by kernel_rfl) (by kernel_rfl) (by kernel_rfl) (fun _ _ _ h => h) (Or.inr ⟨by rfl, rfl⟩) (by assumption) ?_
        try simp only [Act.put, List.setIfInBounds_toArray, List.set_cons_zero, List.set_cons_succ]
        refine take_d (i := 20) (d := 39) (v := undef) rfl rfl (by kernel_rfl) (by kernel_rfl) (by kernel_rfl) (fun _ _ _ h => h) (Or.inr ⟨by rfl, rfl⟩) (by assumption) ?_
        try simp only [Act.put, List.setIfInBounds_toArray, List.set_cons_zero, List.set_cons_succ]
        refine take_d (i := 21) (d := 40) (v := undef) rfl rfl (by kernel_rfl) (by kernel_rfl) (by kernel_rfl) (fun _ _ _ h => h) (Or.inr ⟨by rfl, rfl⟩) (by assumption) ?_
        try simp only [Act.put, List.setIfInBounds_toArray, List.set_cons_zero, List.set_cons_succ]
        refine take_d (i := 22) (d := 41) (v := undef) rfl rfl (by kernel_rfl) (by kernel_rfl) (by kernel_rfl) (fun _ _ _ h => h) (Or.inr ⟨by rfl, rfl⟩) (by assumption) ?_
        try simp only [Act.put, List.setIfInBounds_toArray, List.set_cons_zero, List.set_cons_succ]
        refine take_d (i := 23) (d := 42) (v := undef) rfl rfl (by kernel_rfl) (by kernel_rfl) (by kernel_rfl) (fun _ _ _ h => h) (Or.inr ⟨by rfl, rfl⟩) (by assumption) ?_
        try simp only [Act.put, List.setIfInBounds_toArray, List.set_cons_zero, List.set_cons_succ]
        refine take_d (i := 24) (d := 43) (v := undef) rfl rfl (by kernel_rfl) (by kernel_rfl) (by kernel_rfl) (fun _ _ _ h => h) (Or.inr ⟨by rfl, rfl⟩) (by assumption) ?_
        try simp only [Act.put, List.setIfInBounds_toArray, List.set_cons_zero, List.set_cons_succ]
        refine take_d (i := 25) (d := 44) (v := undef) rfl rfl (by kernel_rfl) (by kernel_rfl) (by kernel_rfl) (fun _ _ _ h => h) (Or.inr ⟨by rfl, rfl⟩) (by assumption) ?_
        try simp only [Act.put, List.setIfInBounds_toArray, List.set_cons_zero, List.set_cons_succ]
        refine take_d (i := 26) (d := 45) (v := undef) rfl rfl (by kernel_rfl) (by kernel_rfl) (by kernel_rfl) (fun _ _ _ h => h) (Or.inr ⟨by rfl, rfl⟩) (by assumption) ?_
        try simp only [Act.put, List.setIfInBounds_toArray, List.set_cons_zero, List.set_cons_succ]
        refine take_d (i := 27) (d := 46) (v := undef) rfl rfl (by kernel_rfl) (by kernel_rfl) (by kernel_rfl) (fun _ _ _ h => h) (Or.inr ⟨by rfl, rfl⟩) (by assumption) ?_
        try simp only [Act.put, List.setIfInBounds_toArray, List.set_cons_zero, List.set_cons_succ]
        refine take_d (i := 28) (d := 47) (v := undef) rfl rfl (by kernel_rfl) (by kernel_rfl) (by kernel_rfl) (fun _ _ _ h => h) (Or.inr ⟨by rfl, rfl⟩) (by assumption) ?_
        try simp only [Act.put, List.setIfInBounds_toArray, List.set_cons_zero, List.set_cons_succ]
        refine take_d (i := 29) (d := 48) (v := undef) rfl rfl (by kernel_rfl) (by kernel_rfl) (by kernel_rfl) (fun _ _ _ h => h) (Or.inr ⟨by rfl, rfl⟩) (by assumption) ?_
        try simp only [Act.put, List.setIfInBounds_toArray, List.set_cons_zero, List.set_cons_succ]
        refine take_d (i := 30) (d := 49) (v := undef) rfl rfl (by kernel_rfl) (by kernel_rfl) (by kernel_rfl) (fun _ _ _ h => h) (Or.inr ⟨by rfl, rfl⟩) (by assumption) ?_
        try simp only [Act.put, List.setIfInBounds_toArray, List.set_cons_zero, List.set_cons_succ]
        refine take_d (i := 31) (d := 50) (v := ?_) rfl rfl (by kernel_rfl) (by kernel_rfl) (by kernel_rfl) (fun _ _ _ h => h) (Or.inl ⟨by rfl, ?_⟩) (by assumption) ?_
        rotate_left
        · intro w hSw; (try dsimp only at hSw); go_simp; (try with_reducible rfl)
        try simp only [Act.put, List.setIfInBounds_toArray, List.set_cons_zero, List.set_cons_succ]
        refine take_d (i := 32) (d := 51) (v := ?_) rfl rfl (by kernel_rfl) (by kernel_rfl) (by kernel_rfl) (fun _ _ _ h => h) (Or.inl ⟨by rfl, ?_⟩) (by assumption) ?_
        rotate_left
        · intro w hSw; (try dsimp only at hSw); go_simp; (try with_reducible rfl)
        try simp only [Act.put, List.setIfInBounds_toArray, List.set_cons_zero, List.set_cons_succ]
        refine wpAnyH_done (by kernel_rfl) ?_ _
        go_wp2_with fail
        go_meet
        exact ⟨rfl, P3⟩
      · rw [hdi] at hDi
        rw [hdk] at hDk
        have HDi := Lib.hid hDi
        have HDk := Lib.hid hDk
        have hval : rdV b = some (⟨k1, n1, sv⟩, []) := by
          rw [Bool.and_eq_true, Bool.not_eq_true'] at hdk
          have := P1.vn hdk.1
          rwa [List.eq_nil_of_length_eq_zero (of_decide_eq_true hdk.2)] at this
        obtain ⟨evb, evr, evo⟩ := val_bounds hb hval
        have HR := Lib.hid fun wx => right_any ⟨k1, n1, sv⟩ evo.t wx
        have HF := Lib.hid fun wx => ref07_any ⟨k1, n1, sv⟩ wx
        have HV := Lib.hid fun wx => refValue_any ⟨k1, n1, sv⟩ evo wx
        rw [evr] at HR
        simp only [VD.val] at HR HF HV
        have Evb := Lib.hid evb
        clear evb evr evo hval hDi hDk hdi hdk
        refine wp_region_held_drew (S := fun w' => w'.cell? ⟨w4.heap.size, 0, none⟩ = some (.slice SA cs.length c1) ∧ w'.cell? ⟨w4.heap.size, 1, none⟩ = some (.slice SB rows.length c2) ∧ w'.cell? ⟨w4.heap.size + 1, 0, none⟩ = some (.int .i64 k1) ∧ w'.cell? ⟨w4.heap.size + 1, 1, none⟩ = some (.int .i64 n1) ∧ w'.cell? ⟨w4.heap.size + 1, 2, none⟩ = some (.string sv) ∧ (convert 22 9 (.slice A b.length c)).run Tryd.prog w' = .ok (.string (S b)) w') (by kernel_rfl) ⟨k0c, k1c, v0c, v1c, v2c, kbc⟩ (fun hHeld => ?_)
        refine take_d (i := 0) (d := 19) (v := ?_) rfl rfl (by kernel_rfl) (by kernel_rfl) (by kernel_rfl) (fun _ _ _ h => h) (Or.inl ⟨by rfl, ?_⟩) (by assumption) ?_
        rotate_left
        · intro w hSw; (try dsimp only at hSw); go_simp; (try with_reducible rfl)
        try simp only [Act.put, List.setIfInBounds_toArray, List.set_cons_zero, List.set_cons_succ]
        have ka0 := k0c
        have kb0 := k1c
        have va0 := v0c
        have vb0 := v1c
        have vc0 := v2c
        have kk0 := kbc
        clear k0c k1c v0c v1c v2c kbc
        refine wpAnyH_ready (rs := [1]) (by kernel_rfl) (by simp) ?_
        refine AllReadyH.cons rfl (fun K hK => ?_) AllReadyH.nil
        go_simp
        go_at_call 20
        refine (HDi.out).mono ?_
        rintro e w' ⟨rfl, rfl⟩
        have P2 := P1
        have ka1 := ka0
        have kb1 := kb0
        have va1 := va0
        have vb1 := vb0
        have vc1 := vc0
        have kk1 := kk0
        (try go_wp2_with fail)
        refine hK.out _ _ ⟨ka1, kb1, va1, vb1, vc1, kk1⟩ (fun _h1 => ?_)
        clear hK K
        try simp only [Act.put, List.setIfInBounds_toArray, List.set_cons_zero, List.set_cons_succ]
        refine take_d (i := 2) (d := 21) (v := ?_) rfl rfl (by kernel_rfl) (by kernel_rfl) (by kernel_rfl) (fun _ _ _ h => h) (Or.inl ⟨by rfl, ?_⟩) (by assumption) ?_
        rotate_left
        · intro w hSw; (try dsimp only at hSw); go_simp; (try with_reducible rfl)
        try simp only [Act.put, List.setIfInBounds_toArray, List.set_cons_zero, List.set_cons_succ]
        refine take_d (i := 3) (d := 22) (v := undef) rfl rfl (by kernel_rfl) (by kernel_rfl) (by kernel_rfl) (fun _ _ _ h => h) (Or.inr ⟨by rfl, rfl⟩) (by assumption) ?_
        try simp only [Act.put, List.setIfInBounds_toArray, List.set_cons_zero, List.set_cons_succ]
        refine take_d (i := 4) (d := 23) (v := undef) rfl rfl (by kernel_rfl) (by kernel_rfl) (by kernel_rfl) (fun _ _ _ h => h) (Or.inr ⟨by rfl, rfl⟩) (by assumption) ?_
        try simp only [Act.put, List.setIfInBounds_toArray, List.set_cons_zero, List.set_cons_succ]
        refine take_d (i := 5) (d := 24) (v := undef) rfl rfl (by kernel_rfl) (by kernel_rfl) (by kernel_rfl) (fun _ _ _ h => h) (Or.inr ⟨by rfl, rfl⟩) (by assumption) ?_
        try simp only [Act.put, List.setIfInBounds_toArray, List.set_cons_zero, List.set_cons_succ]
        refine take_d (i := 6) (d := 25) (v := undef) rfl rfl (by kernel_rfl) (by kernel_rfl) (by kernel_rfl) (fun _ _ _ h => h) (Or.inr ⟨by rfl, rfl⟩) (by assumption) ?_
        try simp only [Act.put, List.setIfInBounds_toArray, List.set_cons_zero, List.set_cons_succ]
        refine take_d (i := 7) (d := 26) (v := undef) rfl rfl (by kernel_rfl) (by kernel_rfl) (by kernel_rfl) (fun _ _ _ h => h) (Or.inr ⟨by rfl, rfl⟩) (by assumption) ?_
        try simp only [Act.put, List.setIfInBounds_toArray, List.set_cons_zero, List.set_cons_succ]
        refine take_d (i := 8) (d := 27) (v := undef) rfl rfl (by kernel_rfl) (by kernel_rfl) (by kernel_rfl) (fun _ _ _ h => h) (Or.inr ⟨by rfl, rfl⟩) (by assumption) ?_
        try simp only [Act.put, List.setIfInBounds_toArray, List.set_cons_zero, List.set_cons_succ]
        refine take_d (i := 9) (d := 28) (v := undef) rfl rfl (by kernel_rfl) (by kernel_rfl) (by kernel_rfl) (fun _ _ _ h => h) (Or.inr ⟨by rfl, rfl⟩) (by assumption) ?_
        try simp only [Act.put, List.setIfInBounds_toArray, List.set_cons_zero, List.set_cons_succ]
        refine take_d (i := 10) (d := 29) (v := undef) rfl rfl (by kernel_rfl) (by kernel_rfl) (by kernel_rfl) (fun _ _ _ h => h) (Or.inr ⟨by rfl, rfl⟩) (by assumption) ?_
        try simp only [Act.put, List.setIfInBounds_toArray, List.set_cons_zero, List.set_cons_succ]
        refine take_d (i := 11) (d := 30) (v := undef) rfl rfl (by kernel_rfl) (by kernel_rfl) (by kernel_rfl) (fun _ _ _ h => h) (Or.inr ⟨by rfl, rfl⟩) (by assumption) ?_
        try simp only [Act.put, List.setIfInBounds_toArray, List.set_cons_zero, List.set_cons_succ]
        refine take_d (i := 12) (d := 31) (v := undef) rfl rfl (by kernel_rfl) (by kernel_rfl) (by kernel_rfl) (fun _ _ _ h => h) (Or.inr ⟨by rfl, rfl⟩) (by assumption) ?_
        try simp only [Act.put, List.setIfInBounds_toArray, List.set_cons_zero, List.set_cons_succ]
        refine take_d (i := 13) (d := 32) (v := undef) rfl rfl (by kernel_rfl) (by kernel_rfl) (by kernel_rfl) (fun _ _ _ h => h) (Or.inr ⟨by rfl, rfl⟩) (by assumption) ?_
        try simp only [Act.put, List.setIfInBounds_toArray, List.set_cons_zero, List.set_cons_succ]
        refine take_d (i := 14) (d := 33) (v := ?_) rfl rfl (by kernel_rfl) (by kernel_rfl) (by kernel_rfl) (fun _ _ _ h => h) (Or.inl ⟨by rfl, ?_⟩) (by assumption) ?_
        rotate_left
        · intro w hSw; (try dsimp only at hSw); go_simp; (try with_reducible rfl)
        try simp only [Act.put, List.setIfInBounds_toArray, List.set_cons_zero, List.set_cons_succ]
        refine take_d (i := 15) (d := 34) (v := ?_) rfl rfl (by kernel_rfl) (by kernel_rfl) (by kernel_rfl) (fun _ _ _ h => h) (Or.inl ⟨by rfl, ?_⟩) (by assumption) ?_
        rotate_left
        · intro w hSw; (try dsimp only at hSw); go_simp; (try with_reducible rfl)
        try simp only [Act.put, List.setIfInBounds_toArray, List.set_cons_zero, List.set_cons_succ]
        refine take_d (i := 16) (d := 35) (v := ?_) rfl rfl (by kernel_rfl) (by kernel_rfl) (by kernel_rfl) (fun _ _ _ h => h) (Or.inl ⟨by rfl, ?_⟩) (by assumption) ?_
        rotate_left
        · intro w hSw; (try dsimp only at hSw); go_simp; (try with_reducible rfl)
        try simp only [Act.put, List.setIfInBounds_toArray, List.set_cons_zero, List.set_cons_succ]
        refine wpAnyH_ready (rs := [17]) (by kernel_rfl) (by simp) ?_
        refine AllReadyH.cons rfl (fun K hK => ?_) AllReadyH.nil
        go_simp
        go_at_call 20
        refine (HDk.out _ P2).mono ?_
        rintro e w' ⟨rfl, rfl⟩
        have P3 := P2
        have ka2 := ka1
        have kb2 := kb1
        have va2 := va1
        have vb2 := vb1
        have vc2 := vc1
        have kk2 := kk1
        (try go_wp2_with fail)
        refine hK.out _ _ ⟨ka2, kb2, va2, vb2, vc2, kk2⟩ (fun _h2 => ?_)
        clear hK K
        try simp only [Act.put, List.setIfInBounds_toArray, List.set_cons_zero, List.set_cons_succ]
        refine take_d (i := 18) (d := 37) (v := ?_) rfl rfl (by kernel_rfl) (by kernel_rfl) (by kernel_rfl) (fun _ _ _ h => h) (Or.inl ⟨by rfl, ?_⟩) (by assumption) ?_
        rotate_left
        · intro w hSw; (try dsimp only at hSw); go_simp; (try with_reducible rfl)
        try simp only [Act.put, List.setIfInBounds_toArray, List.set_cons_zero, List.set_cons_succ]
        refine take_d (i := 19) (d := 38) (v := ?_) rfl rfl (by kernel_rfl) (by kernel_rfl) (by kernel_rfl) (fun _ _ _ h => h) (Or.inl ⟨by rfl, ?_⟩) (by assumption) ?_
        rotate_left
        · intro w hSw; (try dsimp only at hSw); go_simp; (try with_reducible rfl)
        try simp only [Act.put, List.setIfInBounds_toArray, List.set_cons_zero, List.set_cons_succ]
        refine wpAnyH_ready (rs := [20]) (by kernel_rfl) (by simp) ?_
        refine AllReadyH.cons rfl (fun K hK => ?_) AllReadyH.nil
        go_simp
        go_at_call 32
        refine (HR.out _).mono ?_
        rintro e w13 ⟨rfl, t3⟩
        have P4 := P3.touch0 t3
        obtain ⟨ka3, kb3, va3, vb3, vc3⟩ := P4.cells
        have kk3 := HbS.out _ P4.t
        (try go_wp2_with fail)
        refine hK.out _ _ ⟨ka3, kb3, va3, vb3, vc3, kk3⟩ (fun _h3 => ?_)
        clear hK K
        try simp only [Act.put, List.setIfInBounds_toArray, List.set_cons_zero, List.set_cons_succ]
        refine take_d (i := 21) (d := 40) (v := ?_) rfl rfl (by kernel_rfl) (by kernel_rfl) (by kernel_rfl) (fun _ _ _ h => h) (Or.inl ⟨by rfl, ?_⟩) (by assumption) ?_
        rotate_left
        · intro w hSw; (try dsimp only at hSw); go_simp; (try with_reducible rfl)
        try simp only [Act.put, List.setIfInBounds_toArray, List.set_cons_zero, List.set_cons_succ]
        refine take_d (i := 22) (d := 41) (v := ?_) rfl rfl (by kernel_rfl) (by kernel_rfl) (by kernel_rfl) (fun _ _ _ h => h) (Or.inl ⟨by rfl, ?_⟩) (by assumption) ?_
        rotate_left
        · intro w hSw; (try dsimp only at hSw); go_simp; (try with_reducible rfl)
        try simp only [Act.put, List.setIfInBounds_toArray, List.set_cons_zero, List.set_cons_succ]
        refine take_d (i := 23) (d := 42) (v := ?_) rfl rfl (by kernel_rfl) (by kernel_rfl) (by kernel_rfl) (fun _ _ _ h => h) (Or.inl ⟨by rfl, ?_⟩) (by assumption) ?_
        rotate_left
        · intro w hSw; (try dsimp only at hSw); go_simp; (try with_reducible rfl)
        try simp only [Act.put, List.setIfInBounds_toArray, List.set_cons_zero, List.set_cons_succ]
        refine take_d (i := 27) (d := 46) (v := ?_) rfl rfl (by kernel_rfl) (by kernel_rfl) (by kernel_rfl) (fun _ _ _ h => h) (Or.inl ⟨by rfl, ?_⟩) (by assumption) ?_
        rotate_left
        · intro w hSw; (try dsimp only at hSw); go_simp; (try with_reducible rfl)
        try simp only [Act.put, List.setIfInBounds_toArray, List.set_cons_zero, List.set_cons_succ]
        refine take_d (i := 28) (d := 47) (v := ?_) rfl rfl (by kernel_rfl) (by kernel_rfl) (by kernel_rfl) (fun _ _ _ h => h) (Or.inl ⟨by rfl, ?_⟩) (by assumption) ?_
        rotate_left
        · intro w hSw; (try dsimp only at hSw); go_simp; (try with_reducible rfl)
        try simp only [Act.put, List.setIfInBounds_toArray, List.set_cons_zero, List.set_cons_succ]
        refine wpAnyH_ready (rs := [24]) (by kernel_rfl) (by simp) ?_
        refine AllReadyH.cons rfl (fun K hK => ?_) AllReadyH.nil
        go_simp
        go_at_call 34
        refine (HF.out _).mono ?_
        rintro e w14 ⟨rfl, t4⟩
        have P5 := P4.touch0 t4
        obtain ⟨ka4, kb4, va4, vb4, vc4⟩ := P5.cells
        have kk4 := HbS.out _ P5.t
        (try go_wp2_with fail)
        refine hK.out _ _ ⟨ka4, kb4, va4, vb4, vc4, kk4⟩ (fun _h4 => ?_)
        clear hK K
        try simp only [Act.put, List.setIfInBounds_toArray, List.set_cons_zero, List.set_cons_succ]
        refine wpAnyH_ready (rs := [25]) (by kernel_rfl) (by simp) ?_
        refine AllReadyH.cons rfl (fun K hK => ?_) AllReadyH.nil
        go_simp
        go_at_call 33
        refine (HV.out _).mono ?_
        rintro e w15 ⟨A6, c6, rfl, own6, t5, hf6⟩
        have P6 := P5.touch0 t5
        obtain ⟨ka5, kb5, va5, vb5, vc5⟩ := P6.cells
        have kk5 := HbS.out _ P6.t
        have q6_r := fun w' (t : Touch [] w15 w') => run_str_of (n := (encV ⟨k1, n1, sv⟩).length) c6 (l := b) (by rw [← Evb.out]) (Rd.touch0 (by rw [Evb.out]; exact own6.rd) t)
        have q6_t := Touch.refl [] w15
        have q6_5 := q6_r _ q6_t
        (try go_wp2_with fail)
        refine hK.out _ _ ⟨ka5, kb5, va5, vb5, vc5, kk5⟩ (fun _h5 => ?_)
        clear hK K
        try simp only [Act.put, List.setIfInBounds_toArray, List.set_cons_zero, List.set_cons_succ]
        refine wpAnyH_weak (S := fun w' => (convert 22 9 (.slice A6 (encV ⟨k1, n1, sv⟩).length c6)).run Tryd.prog w' = .ok (.string (S b)) w' ∧ w'.cell? ⟨w4.heap.size, 0, none⟩ = some (.slice SA cs.length c1) ∧ w'.cell? ⟨w4.heap.size, 1, none⟩ = some (.slice SB rows.length c2) ∧ w'.cell? ⟨w4.heap.size + 1, 0, none⟩ = some (.int .i64 k1) ∧ w'.cell? ⟨w4.heap.size + 1, 1, none⟩ = some (.int .i64 n1) ∧ w'.cell? ⟨w4.heap.size + 1, 2, none⟩ = some (.string sv) ∧ (convert 22 9 (.slice A b.length c)).run Tryd.prog w' = .ok (.string (S b)) w') (fun _ h => h.2) _ _ _ _ ?_
        have hH6 : (fun w' : World => (convert 22 9 (.slice A6 (encV ⟨k1, n1, sv⟩).length c6)).run Tryd.prog w' = .ok (.string (S b)) w' ∧ w'.cell? ⟨w4.heap.size, 0, none⟩ = some (.slice SA cs.length c1) ∧ w'.cell? ⟨w4.heap.size, 1, none⟩ = some (.slice SB rows.length c2) ∧ w'.cell? ⟨w4.heap.size + 1, 0, none⟩ = some (.int .i64 k1) ∧ w'.cell? ⟨w4.heap.size + 1, 1, none⟩ = some (.int .i64 n1) ∧ w'.cell? ⟨w4.heap.size + 1, 2, none⟩ = some (.string sv) ∧ (convert 22 9 (.slice A b.length c)).run Tryd.prog w' = .ok (.string (S b)) w') w15 := ⟨q6_5, ka5, kb5, va5, vb5, vc5, kk5⟩
        refine take_d (i := 26) (d := 45) (v := ?_) rfl rfl (by kernel_rfl) (by kernel_rfl) (by kernel_rfl) (fun _ _ _ h => h) (Or.inl ⟨by rfl, ?_⟩) (by assumption) ?_
        rotate_left
        · intro w hSw; (try dsimp only at hSw); go_simp; (try with_reducible rfl)
        try simp only [Act.put, List.setIfInBounds_toArray, List.set_cons_zero, List.set_cons_succ]
        refine take_d (i := 29) (d := 48) (v := ?_) rfl rfl (by kernel_rfl) (by kernel_rfl) (by kernel_rfl) (fun _ _ _ h => h) (Or.inl ⟨by rfl, ?_⟩) (by assumption) ?_
        rotate_left
        · intro w hSw; (try dsimp only at hSw); go_simp; (try with_reducible rfl)
        try simp only [Act.put, List.setIfInBounds_toArray, List.set_cons_zero, List.set_cons_succ]
        refine take_d (i := 30) (d := 49) (v := ?_) rfl rfl (by kernel_rfl) (by kernel_rfl) (by kernel_rfl) (fun _ _ _ h => h) (Or.inl ⟨by rfl, ?_⟩) (by assumption) ?_
        rotate_left
        · intro w hSw; (try dsimp only at hSw); go_simp; (try with_reducible rfl)
        try simp only [Act.put, List.setIfInBounds_toArray, List.set_cons_zero, List.set_cons_succ]
        refine take_d (i := 31) (d := 50) (v := ?_) rfl rfl (by kernel_rfl) (by kernel_rfl) (by kernel_rfl) (fun _ _ _ h => h) (Or.inl ⟨by rfl, ?_⟩) (by assumption) ?_
        rotate_left
        · intro w hSw; (try dsimp only at hSw); go_simp; (try with_reducible rfl)
        try simp only [Act.put, List.setIfInBounds_toArray, List.set_cons_zero, List.set_cons_succ]
        refine take_d (i := 32) (d := 51) (v := ?_) rfl rfl (by kernel_rfl) (by kernel_rfl) (by kernel_rfl) (fun _ _ _ h => h) (Or.inl ⟨by rfl, ?_⟩) (by assumption) ?_
        rotate_left
        · intro w hSw; (try dsimp only at hSw); go_simp; (try with_reducible rfl)
        try simp only [Act.put, List.setIfInBounds_toArray, List.set_cons_zero, List.set_cons_succ]
        refine wpAnyH_done (by kernel_rfl) ?_ _
        go_wp2_with fail
        go_meet
        exact ⟨rfl, P6⟩
    · have htab : rdTab b = some ((cs, rows), []) := by
        rw [Bool.and_eq_true, Bool.not_eq_true'] at hdi
        have := P1.tn hdi.1
        rwa [List.eq_nil_of_length_eq_zero (of_decide_eq_true hdi.2)] at this
      obtain ⟨eb, ec, hcb, hrb, hrok⟩ := tab_bounds hb htab
      have HC := Lib.hid fun wx (p : PR b g1 g2 w4.heap.size (w4.heap.size + 1) B1 B2 l1 l2 bi bk SA SB c1 c2 cs rows ⟨k1, n1, sv⟩ w wx) => checkT_any SA c1 cs.length cs rfl (fun c hc => (hcb.2 c hc).1) SB c2 rows.length rows rfl hrok wx p.hc p.hr (by have := hcb.1; omega) (by have := hrb.1; omega)
      rw [ec] at HC
      have HTB := Lib.hid fun wx (p : PR b g1 g2 w4.heap.size (w4.heap.size + 1) B1 B2 l1 l2 bi bk SA SB c1 c2 cs rows ⟨k1, n1, sv⟩ w wx) => tableBytes_any SA SB c1 c2 cs.length rows.length cs rows rfl rfl hcb hrb wx p.hc p.hr
      have Eb := Lib.hid eb
      clear eb ec hcb hrb hrok htab
      rcases hdk : (!bk && decide (l2.length = 0)) with _ | _
      · rw [hdi] at hDi
        rw [hdk] at hDk
        have HDi := Lib.hid hDi
        have HDk := Lib.hid hDk
        clear hDi hDk hdi hdk
        refine wp_region_held_drew (S := fun w' => w'.cell? ⟨w4.heap.size, 0, none⟩ = some (.slice SA cs.length c1) ∧ w'.cell? ⟨w4.heap.size, 1, none⟩ = some (.slice SB rows.length c2) ∧ w'.cell? ⟨w4.heap.size + 1, 0, none⟩ = some (.int .i64 k1) ∧ w'.cell? ⟨w4.heap.size + 1, 1, none⟩ = some (.int .i64 n1) ∧ w'.cell? ⟨w4.heap.size + 1, 2, none⟩ = some (.string sv) ∧ (convert 22 9 (.slice A b.length c)).run Tryd.prog w' = .ok (.string (S b)) w') (by kernel_rfl) ⟨k0c, k1c, v0c, v1c, v2c, kbc⟩ (fun hHeld => ?_)
        refine take_d (i := 0) (d := 19) (v := ?_) rfl rfl (by kernel_rfl) (by kernel_rfl) (by kernel_rfl) (fun _ _ _ h => h) (Or.inl ⟨by rfl, ?_⟩) (by assumption) ?_
        rotate_left
        · intro w hSw; (try dsimp only at hSw); go_simp; (try with_reducible rfl)
        try simp only [Act.put, List.setIfInBounds_toArray, List.set_cons_zero, List.set_cons_succ]
        have ka0 := k0c
        have kb0 := k1c
        have va0 := v0c
        have vb0 := v1c
        have vc0 := v2c
        have kk0 := kbc
        clear k0c k1c v0c v1c v2c kbc
        refine wpAnyH_ready (rs := [1]) (by kernel_rfl) (by simp) ?_
        refine AllReadyH.cons rfl (fun K hK => ?_) AllReadyH.nil
        go_simp
        go_at_call 20
        refine (HDi.out).mono ?_
        rintro e w' ⟨rfl, rfl⟩
        have P2 := P1
        have ka1 := ka0
        have kb1 := kb0
        have va1 := va0
        have vb1 := vb0
        have vc1 := vc0
        have kk1 := kk0
        (try go_wp2_with fail)
        refine hK.out _ _ ⟨ka1, kb1, va1, vb1, vc1, kk1⟩ (fun _h1 => ?_)
        clear hK K
        try simp only [Act.put, List.setIfInBounds_toArray, List.set_cons_zero, List.set_cons_succ]
        refine take_d (i := 2) (d := 21) (v := ?_) rfl rfl (by kernel_rfl) (by kernel_rfl) (by kernel_rfl) (fun _ _ _ h => h) (Or.inl ⟨by rfl, ?_⟩) (by assumption) ?_
        rotate_left
        · intro w hSw; (try dsimp only at hSw); go_simp; (try with_reducible rfl)
        try simp only [Act.put, List.setIfInBounds_toArray, List.set_cons_zero, List.set_cons_succ]
        refine take_d (i := 3) (d := 22) (v := ?_) rfl rfl (by kernel_rfl) (by kernel_rfl) (by kernel_rfl) (fun _ _ _ h => h) (Or.inl ⟨by rfl, ?_⟩) (by assumption) ?_
        rotate_left
        · intro w hSw; (try dsimp only at hSw); go_simp; (try with_reducible rfl)
        try simp only [Act.put, List.setIfInBounds_toArray, List.set_cons_zero, List.set_cons_succ]
        refine wpAnyH_ready (rs := [4]) (by kernel_rfl) (by simp) ?_
        refine AllReadyH.cons rfl (fun K hK => ?_) AllReadyH.nil
        go_simp
        go_at_call 30
        refine (HC.out _ P2).mono ?_
        rintro e w12 ⟨rfl, t2⟩
        have P3 := P2.touch0 t2
        obtain ⟨ka2, kb2, va2, vb2, vc2⟩ := P3.cells
        have kk2 := HbS.out _ P3.t
        (try go_wp2_with fail)
        refine hK.out _ _ ⟨ka2, kb2, va2, vb2, vc2, kk2⟩ (fun _h2 => ?_)
        clear hK K
        try simp only [Act.put, List.setIfInBounds_toArray, List.set_cons_zero, List.set_cons_succ]
        refine take_d (i := 5) (d := 24) (v := ?_) rfl rfl (by kernel_rfl) (by kernel_rfl) (by kernel_rfl) (fun _ _ _ h => h) (Or.inl ⟨by rfl, ?_⟩) (by assumption) ?_
        rotate_left
        · intro w hSw; (try dsimp only at hSw); go_simp; (try with_reducible rfl)
        try simp only [Act.put, List.setIfInBounds_toArray, List.set_cons_zero, List.set_cons_succ]
        refine take_d (i := 6) (d := 25) (v := ?_) rfl rfl (by kernel_rfl) (by kernel_rfl) (by kernel_rfl) (fun _ _ _ h => h) (Or.inl ⟨by rfl, ?_⟩) (by assumption) ?_
        rotate_left
        · intro w hSw; (try dsimp only at hSw); go_simp; (try with_reducible rfl)
        try simp only [Act.put, List.setIfInBounds_toArray, List.set_cons_zero, List.set_cons_succ]
        refine take_d (i := 7) (d := 26) (v := ?_) rfl rfl (by kernel_rfl) (by kernel_rfl) (by kernel_rfl) (fun _ _ _ h => h) (Or.inl ⟨by rfl, ?_⟩) (by assumption) ?_
        rotate_left
        · intro w hSw; (try dsimp only at hSw); go_simp; (try with_reducible rfl)
        try simp only [Act.put, List.setIfInBounds_toArray, List.set_cons_zero, List.set_cons_succ]
        refine take_d (i := 10) (d := 29) (v := ?_) rfl rfl (by kernel_rfl) (by kernel_rfl) (by kernel_rfl) (fun _ _ _ h => h) (Or.inl ⟨by rfl, ?_⟩) (by assumption) ?_
        rotate_left
        · intro w hSw; (try dsimp only at hSw); go_simp; (try with_reducible rfl)
        try simp only [Act.put, List.setIfInBounds_toArray, List.set_cons_zero, List.set_cons_succ]
        refine take_d (i := 11) (d := 30) (v := ?_) rfl rfl (by kernel_rfl) (by kernel_rfl) (by kernel_rfl) (fun _ _ _ h => h) (Or.inl ⟨by rfl, ?_⟩) (by assumption) ?_
        rotate_left
        · intro w hSw; (try dsimp only at hSw); go_simp; (try with_reducible rfl)
        try simp only [Act.put, List.setIfInBounds_toArray, List.set_cons_zero, List.set_cons_succ]
        refine wpAnyH_ready (rs := [8]) (by kernel_rfl) (by simp) ?_
        refine AllReadyH.cons rfl (fun K hK => ?_) AllReadyH.nil
        go_simp
        go_at_call 31
        refine (HTB.out _ P3).mono ?_
        rintro e w13 ⟨A5, c5, rfl, mb5⟩
        have P4 := P3.touch0 mb5.t
        obtain ⟨ka3, kb3, va3, vb3, vc3⟩ := P4.cells
        have kk3 := HbS.out _ P4.t
        have q5_r := fun w' (t : Touch [] w13 w') => run_str_of (n := (encTab cs rows).length) c5 (l := b) (by rw [← Eb.out]) (Rd.touch0 (by rw [Eb.out]; exact mb5.own.rd) t)
        have q5_t := Touch.refl [] w13
        have q5_3 := q5_r _ q5_t
        (try go_wp2_with fail)
        refine hK.out _ _ ⟨ka3, kb3, va3, vb3, vc3, kk3⟩ (fun _h3 => ?_)
        clear hK K
        try simp only [Act.put, List.setIfInBounds_toArray, List.set_cons_zero, List.set_cons_succ]
        refine wpAnyH_weak (S := fun w' => (convert 22 9 (.slice A5 (encTab cs rows).length c5)).run Tryd.prog w' = .ok (.string (S b)) w' ∧ w'.cell? ⟨w4.heap.size, 0, none⟩ = some (.slice SA cs.length c1) ∧ w'.cell? ⟨w4.heap.size, 1, none⟩ = some (.slice SB rows.length c2) ∧ w'.cell? ⟨w4.heap.size + 1, 0, none⟩ = some (.int .i64 k1) ∧ w'.cell? ⟨w4.heap.size + 1, 1, none⟩ = some (.int .i64 n1) ∧ w'.cell? ⟨w4.heap.size + 1, 2, none⟩ = some (.string sv) ∧ (convert 22 9 (.slice A b.length c)).run Tryd.prog w' = .ok (.string (S b)) w') (fun _ h => h.2) _ _ _ _ ?_
        have hH5 : (fun w' : World => (convert 22 9 (.slice A5 (encTab cs rows).length c5)).run Tryd.prog w' = .ok (.string (S b)) w' ∧ w'.cell? ⟨w4.heap.size, 0, none⟩ = some (.slice SA cs.length c1) ∧ w'.cell? ⟨w4.heap.size, 1, none⟩ = some (.slice SB rows.length c2) ∧ w'.cell? ⟨w4.heap.size + 1, 0, none⟩ = some (.int .i64 k1) ∧ w'.cell? ⟨w4.heap.size + 1, 1, none⟩ = some (.int .i64 n1) ∧ w'.cell? ⟨w4.heap.size + 1, 2, none⟩ = some (.string sv) ∧ (convert 22 9 (.slice A b.length c)).run Tryd.prog w' = .ok (.string (S b)) w') w13 := ⟨q5_3, ka3, kb3, va3, vb3, vc3, kk3⟩
        refine take_d (i := 9) (d := 28) (v := ?_) rfl rfl (by kernel_rfl) (by kernel_rfl) (by kernel_rfl) (fun _ _ _ h => h) (Or.inl ⟨by rfl, ?_⟩) (by assumption) ?_
        rotate_left
        · intro w hSw; (try dsimp only at hSw); go_simp; (try with_reducible rfl)
        try simp only [Act.put, List.setIfInBounds_toArray, List.set_cons_zero, List.set_cons_succ]
        refine take_d (i := 12) (d := 31) (v := ?_) rfl rfl (by kernel_rfl) (by kernel_rfl) (by kernel_rfl) (fun _ _ _ h => h) (Or.inl ⟨by rfl, ?_⟩) (by assumption) ?_
        rotate_left
        · intro w hSw; (try dsimp only at hSw); go_simp; (try with_reducible rfl)
        try simp only [Act.put, List.setIfInBounds_toArray, List.set_cons_zero, List.set_cons_succ]
        refine take_d (i := 13) (d := 32) (v := ?_) rfl rfl (by kernel_rfl) (by kernel_rfl) (by kernel_rfl) (fun _ _ _ h => h) (Or.inl ⟨by rfl, ?_⟩) (by assumption) ?_
        rotate_left
        · intro w hSw; (try dsimp only at hSw); go_simp; (try with_reducible rfl)
        try simp only [Act.put, List.setIfInBounds_toArray, List.set_cons_zero, List.set_cons_succ]
        refine take_d (i := 14) (d := 33) (v := ?_) rfl rfl (by kernel_rfl) (by kernel_rfl) (by kernel_rfl) (fun _ _ _ h => h) (Or.inl ⟨by rfl, ?_⟩) (by assumption) ?_
        rotate_left
        · intro w hSw; (try dsimp only at hSw); go_simp; (try with_reducible rfl)
        try simp only [Act.put, List.setIfInBounds_toArray, List.set_cons_zero, List.set_cons_succ]
        refine take_d (i := 15) (d := 34) (v := ?_) rfl rfl (by kernel_rfl) (by kernel_rfl) (by kernel_rfl) (fun _ _ _ h => h) (Or.inl ⟨by rfl, ?_⟩) (by assumption) ?_
        rotate_left
        · intro w hSw; (try dsimp only at hSw); go_simp; (try with_reducible rfl)
        try simp only [Act.put, List.setIfInBounds_toArray, List.set_cons_zero, List.set_cons_succ]
        refine take_d (i := 16) (d := 35) (v := ?_) rfl rfl (by kernel_rfl) (by kernel_rfl) (by kernel_rfl) (fun _ _ _ h => h) (Or.inl ⟨by rfl, ?_⟩) (by assumption) ?_
        rotate_left
        · intro w hSw; (try dsimp only at hSw); go_simp; (try with_reducible rfl)
        try simp only [Act.put, List.setIfInBounds_toArray, List.set_cons_zero, List.set_cons_succ]
        refine wpAnyH_ready (rs := [17]) (by kernel_rfl) (by simp) ?_
        refine AllReadyH.cons rfl (fun K hK => ?_) AllReadyH.nil
        go_simp
        go_at_call 20
        refine (HDk.out _ P4).mono ?_
        rintro e w' ⟨rfl, rfl⟩
        have P5 := P4
        have ka4 := ka3
        have kb4 := kb3
        have va4 := va3
        have vb4 := vb3
        have vc4 := vc3
        have kk4 := kk3
        (try go_wp2_with fail)
        refine hK.out _ _ ⟨q5_3, ka4, kb4, va4, vb4, vc4, kk4⟩ (fun _h4 => ?_)
        clear hK K
        try simp only [Act.put, List.setIfInBounds_toArray, List.set_cons_zero, List.set_cons_succ]
        refine take_d (i := 18) (d := 37) (v := ?_) rfl rfl (by kernel_rfl) (by kernel_rfl) (by kernel_rfl) (fun _ _ _ h => h) (Or.inl ⟨by rfl, ?_⟩) (by assumption) ?_
        rotate_left
        · intro w hSw; (try dsimp only at hSw); go_simp; (try with_reducible rfl)
        try simp only [Act.put, List.setIfInBounds_toArray, List.set_cons_zero, List.set_cons_succ]
        refine take_d (i := 19) (d := 38) (v := undef) rfl rfl (by kernel_rfl) (by kernel_rfl) (by kernel_rfl) (fun _ _ _ h => h) (Or.inr ⟨by rfl, rfl⟩) (by assumption) ?_
        try simp only [Act.put, List.setIfInBounds_toArray, List.set_cons_zero, List.set_cons_succ]
        refine take_d (i := 20) (d := 39) (v := undef) rfl rfl (by kernel_rfl) (by kernel_rfl) (by kernel_rfl) (fun _ _ _ h => h) (Or.inr ⟨by rfl, rfl⟩) (by assumption) ?_
        try simp only [Act.put, List.setIfInBounds_toArray, List.set_cons_zero, List.set_cons_succ]
        refine take_d (i := 21) (d := 40) (v := undef) rfl rfl (by kernel_rfl) (by kernel_rfl) (by kernel_rfl) (fun _ _ _ h => h) (Or.inr ⟨by rfl, rfl⟩) (by assumption) ?_
        try simp only [Act.put, List.setIfInBounds_toArray, List.set_cons_zero, List.set_cons_succ]
        refine take_d (i := 22) (d := 41) (v := undef) rfl rfl (by kernel_rfl) (by kernel_rfl) (by kernel_rfl) (fun _ _ _ h => h) (Or.inr ⟨by rfl, rfl⟩) (by assumption) ?_
        try simp only [Act.put, List.setIfInBounds_toArray, List.set_cons_zero, List.set_cons_succ]
        refine take_d (i := 23) (d := 42) (v := undef) rfl rfl (by kernel_rfl) (by kernel_rfl) (by kernel_rfl) (fun _ _ _ h => h) (Or.inr ⟨by rfl, rfl⟩) (by assumption) ?_
        try simp only [Act.put, List.setIfInBounds_toArray, List.set_cons_zero, List.set_cons_succ]
        refine take_d (i := 24) (d := 43) (v := undef) rfl rfl (by kernel_rfl) (by kernel_rfl) (by kernel_rfl) (fun _ _ _ h => h) (Or.inr ⟨by rfl, rfl⟩) (by assumption) ?_
        try simp only [Act.put, List.setIfInBounds_toArray, List.set_cons_zero, List.set_cons_succ]
        refine take_d (i := 25) (d := 44) (v := undef) rfl rfl (by kernel_rfl) (by kernel_rfl) (by kernel_rfl) (fun _ _ _ h => h) (Or.inr ⟨by rfl, rfl⟩) (by assumption) ?_
        try simp only [Act.put, List.setIfInBounds_toArray, List.set_cons_zero, List.set_cons_succ]
        refine take_d (i := 26) (d := 45) (v := undef) rfl rfl (by kernel_rfl) (by kernel_rfl) (by kernel_rfl) (fun _ _ _ h => h) (Or.inr ⟨by rfl, rfl⟩) (by assumption) ?_
        try simp only [Act.put, List.setIfInBounds_toArray, List.set_cons_zero, List.set_cons_succ]
        refine take_d (i := 27) (d := 46) (v := undef) rfl rfl (by kernel_rfl) (by kernel_rfl) (by kernel_rfl) (fun _ _ _ h => h) (Or.inr ⟨by rfl, rfl⟩) (by assumption) ?_
        try simp only [Act.put, List.setIfInBounds_toArray, List.set_cons_zero, List.set_cons_succ]
        refine take_d (i := 28) (d := 47) (v := undef) rfl rfl (by kernel_rfl) (by kernel_rfl) (by kernel_rfl) (fun _ _ _ h => h) (Or.inr ⟨by rfl, rfl⟩) (by assumption) ?_
        try simp only [Act.put, List.setIfInBounds_toArray, List.set_cons_zero, List.set_cons_succ]
        refine take_d (i := 29) (d := 48) (v := undef) rfl rfl (by kernel_rfl) (by kernel_rfl) (by kernel_rfl) (fun _ _ _ h => h) (Or.inr ⟨by rfl, rfl⟩) (by assumption) ?_
        try simp only [Act.put, List.setIfInBounds_toArray, List.set_cons_zero, List.set_cons_succ]
        refine take_d (i := 30) (d := 49) (v := undef) rfl rfl (by kernel_rfl) (by kernel_rfl) (by kernel_rfl) (fun _ _ _ h => h) (Or.inr ⟨by rfl, rfl⟩) (by assumption) ?_
        try simp only [Act.put, List.setIfInBounds_toArray, List.set_cons_zero, List.set_cons_succ]
        refine take_d (i := 31) (d := 50) (v := ?_) rfl rfl (by kernel_rfl) (by kernel_rfl) (by kernel_rfl) (fun _ _ _ h => h) (Or.inl ⟨by rfl, ?_⟩) (by assumption) ?_
        rotate_left
        · intro w hSw; (try dsimp only at hSw); go_simp; (try with_reducible rfl)
        try simp only [Act.put, List.setIfInBounds_toArray, List.set_cons_zero, List.set_cons_succ]
        refine take_d (i := 32) (d := 51) (v := ?_) rfl rfl (by kernel_rfl) (by kernel_rfl) (by kernel_rfl) (fun _ _ _ h => h) (Or.inl ⟨by rfl, ?_⟩) (by assumption) ?_
        rotate_left
        · intro w hSw; (try dsimp only at hSw); go_simp; (try with_reducible rfl)
        try simp only [Act.put, List.setIfInBounds_toArray, List.set_cons_zero, List.set_cons_succ]
        refine wpAnyH_done (by kernel_rfl) ?_ _
        go_wp2_with fail
        go_meet
        exact ⟨rfl, P5⟩
      · rw [hdi] at hDi
        rw [hdk] at hDk
        have HDi := Lib.hid hDi
        have HDk := Lib.hid hDk
        have hval : rdV b = some (⟨k1, n1, sv⟩, []) := by
          rw [Bool.and_eq_true, Bool.not_eq_true'] at hdk
          have := P1.vn hdk.1
          rwa [List.eq_nil_of_length_eq_zero (of_decide_eq_true hdk.2)] at this
        obtain ⟨evb, evr, evo⟩ := val_bounds hb hval
        have HR := Lib.hid fun wx => right_any ⟨k1, n1, sv⟩ evo.t wx
        have HF := Lib.hid fun wx => ref07_any ⟨k1, n1, sv⟩ wx
        have HV := Lib.hid fun wx => refValue_any ⟨k1, n1, sv⟩ evo wx
        rw [evr] at HR
        simp only [VD.val] at HR HF HV
        have Evb := Lib.hid evb
        clear evb evr evo hval hDi hDk hdi hdk
        refine wp_region_held_drew (S := fun w' => w'.cell? ⟨w4.heap.size, 0, none⟩ = some (.slice SA cs.length c1) ∧ w'.cell? ⟨w4.heap.size, 1, none⟩ = some (.slice SB rows.length c2) ∧ w'.cell? ⟨w4.heap.size + 1, 0, none⟩ = some (.int .i64 k1) ∧ w'.cell? ⟨w4.heap.size + 1, 1, none⟩ = some (.int .i64 n1) ∧ w'.cell? ⟨w4.heap.size + 1, 2, none⟩ = some (.string sv) ∧ (convert 22 9 (.slice A b.length c)).run Tryd.prog w' = .ok (.string (S b)) w') (by kernel_rfl) ⟨k0c, k1c, v0c, v1c, v2c, kbc⟩ (fun hHeld => ?_)
        refine take_d (i := 0) (d := 19) (v := ?_) rfl rfl (by kernel_rfl) (by kernel_rfl) (by kernel_rfl) (fun _ _ _ h => h) (Or.inl ⟨by rfl, ?_⟩) (by assumption) ?_
        rotate_left
        · intro w hSw; (try dsimp only at hSw); go_simp; (try with_reducible rfl)
        try simp only [Act.put, List.setIfInBounds_toArray, List.set_cons_zero, List.set_cons_succ]
        have ka0 := k0c
        have kb0 := k1c
        have va0 := v0c
        have vb0 := v1c
        have vc0 := v2c
        have kk0 := kbc
        clear k0c k1c v0c v1c v2c kbc
        refine wpAnyH_ready (rs := [1]) (by kernel_rfl) (by simp) ?_
        refine AllReadyH.cons rfl (fun K hK => ?_) AllReadyH.nil
        go_simp
        go_at_call 20
        refine (HDi.out).mono ?_
        rintro e w' ⟨rfl, rfl⟩
        have P2 := P1
        have ka1 := ka0
        have kb1 := kb0
        have va1 := va0
        have vb1 := vb0
        have vc1 := vc0
        have kk1 := kk0
        (try go_wp2_with fail)
        refine hK.out _ _ ⟨ka1, kb1, va1, vb1, vc1, kk1⟩ (fun _h1 => ?_)
        clear hK K
        try simp only [Act.put, List.setIfInBounds_toArray, List.set_cons_zero, List.set_cons_succ]
        refine take_d (i := 2) (d := 21) (v := ?_) rfl rfl (by kernel_rfl) (by kernel_rfl) (by kernel_rfl) (fun _ _ _ h => h) (Or.inl ⟨by rfl, ?_⟩) (by assumption) ?_
        rotate_left
        · intro w hSw; (try dsimp only at hSw); go_simp; (try with_reducible rfl)
        try simp only [Act.put, List.setIfInBounds_toArray, List.set_cons_zero, List.set_cons_succ]
        refine take_d (i := 3) (d := 22) (v := ?_) rfl rfl (by kernel_rfl) (by kernel_rfl) (by kernel_rfl) (fun _ _ _ h => h) (Or.inl ⟨by rfl, ?_⟩) (by assumption) ?_
        rotate_left
        · intro w hSw; (try dsimp only at hSw); go_simp; (try with_reducible rfl)
        try simp only [Act.put, List.setIfInBounds_toArray, List.set_cons_zero, List.set_cons_succ]
        refine wpAnyH_ready (rs := [4]) (by kernel_rfl) (by simp) ?_
        refine AllReadyH.cons rfl (fun K hK => ?_) AllReadyH.nil
        go_simp
        go_at_call 30
        refine (HC.out _ P2).mono ?_
        rintro e w12 ⟨rfl, t2⟩
        have P3 := P2.touch0 t2
        obtain ⟨ka2, kb2, va2, vb2, vc2⟩ := P3.cells
        have kk2 := HbS.out _ P3.t
        (try go_wp2_with fail)
        refine hK.out _ _ ⟨ka2, kb2, va2, vb2, vc2, kk2⟩ (fun _h2 => ?_)
        clear hK K
        try simp only [Act.put, List.setIfInBounds_toArray, List.set_cons_zero, List.set_cons_succ]
        refine take_d (i := 5) (d := 24) (v := ?_) rfl rfl (by kernel_rfl) (by kernel_rfl) (by kernel_rfl) (fun _ _ _ h => h) (Or.inl ⟨by rfl, ?_⟩) (by assumption) ?_
        rotate_left
        · intro w hSw; (try dsimp only at hSw); go_simp; (try with_reducible rfl)
        try simp only [Act.put, List.setIfInBounds_toArray, List.set_cons_zero, List.set_cons_succ]
        refine take_d (i := 6) (d := 25) (v := ?_) rfl rfl (by kernel_rfl) (by kernel_rfl) (by kernel_rfl) (fun _ _ _ h => h) (Or.inl ⟨by rfl, ?_⟩) (by assumption) ?_
        rotate_left
        · intro w hSw; (try dsimp only at hSw); go_simp; (try with_reducible rfl)
        try simp only [Act.put, List.setIfInBounds_toArray, List.set_cons_zero, List.set_cons_succ]
        refine take_d (i := 7) (d := 26) (v := ?_) rfl rfl (by kernel_rfl) (by kernel_rfl) (by kernel_rfl) (fun _ _ _ h => h) (Or.inl ⟨by rfl, ?_⟩) (by assumption) ?_
        rotate_left
        · intro w hSw; (try dsimp only at hSw); go_simp; (try with_reducible rfl)
        try simp only [Act.put, List.setIfInBounds_toArray, List.set_cons_zero, List.set_cons_succ]
        refine take_d (i := 10) (d := 29) (v := ?_) rfl rfl (by kernel_rfl) (by kernel_rfl) (by kernel_rfl) (fun _ _ _ h => h) (Or.inl ⟨by rfl, ?_⟩) (by assumption) ?_
        rotate_left
        · intro w hSw; (try dsimp only at hSw); go_simp; (try with_reducible rfl)
        try simp only [Act.put, List.setIfInBounds_toArray, List.set_cons_zero, List.set_cons_succ]
        refine take_d (i := 11) (d := 30) (v := ?_) rfl rfl (by kernel_rfl) (by kernel_rfl) (by kernel_rfl) (fun _ _ _ h => h) (Or.inl ⟨by rfl, ?_⟩) (by assumption) ?_
        rotate_left
        · intro w hSw; (try dsimp only at hSw); go_simp; (try with_reducible rfl)
        try simp only [Act.put, List.setIfInBounds_toArray, List.set_cons_zero, List.set_cons_succ]
        refine wpAnyH_ready (rs := [8]) (by kernel_rfl) (by simp) ?_
        refine AllReadyH.cons rfl (fun K hK => ?_) AllReadyH.nil
        go_simp
        go_at_call 31
        refine (HTB.out _ P3).mono ?_
        rintro e w13 ⟨A5, c5, rfl, mb5⟩
        have P4 := P3.touch0 mb5.t
        obtain ⟨ka3, kb3, va3, vb3, vc3⟩ := P4.cells
        have kk3 := HbS.out _ P4.t
        have q5_r := fun w' (t : Touch [] w13 w') => run_str_of (n := (encTab cs rows).length) c5 (l := b) (by rw [← Eb.out]) (Rd.touch0 (by rw [Eb.out]; exact mb5.own.rd) t)
        have q5_t := Touch.refl [] w13
        have q5_3 := q5_r _ q5_t
        (try go_wp2_with fail)
        refine hK.out _ _ ⟨ka3, kb3, va3, vb3, vc3, kk3⟩ (fun _h3 => ?_)
        clear hK K
        try simp only [Act.put, List.setIfInBounds_toArray, List.set_cons_zero, List.set_cons_succ]
        refine wpAnyH_weak (S := fun w' => (convert 22 9 (.slice A5 (encTab cs rows).length c5)).run Tryd.prog w' = .ok (.string (S b)) w' ∧ w'.cell? ⟨w4.heap.size, 0, none⟩ = some (.slice SA cs.length c1) ∧ w'.cell? ⟨w4.heap.size, 1, none⟩ = some (.slice SB rows.length c2) ∧ w'.cell? ⟨w4.heap.size + 1, 0, none⟩ = some (.int .i64 k1) ∧ w'.cell? ⟨w4.heap.size + 1, 1, none⟩ = some (.int .i64 n1) ∧ w'.cell? ⟨w4.heap.size + 1, 2, none⟩ = some (.string sv) ∧ (convert 22 9 (.slice A b.length c)).run Tryd.prog w' = .ok (.string (S b)) w') (fun _ h => h.2) _ _ _ _ ?_
        have hH5 : (fun w' : World => (convert 22 9 (.slice A5 (encTab cs rows).length c5)).run Tryd.prog w' = .ok (.string (S b)) w' ∧ w'.cell? ⟨w4.heap.size, 0, none⟩ = some (.slice SA cs.length c1) ∧ w'.cell? ⟨w4.heap.size, 1, none⟩ = some (.slice SB rows.length c2) ∧ w'.cell? ⟨w4.heap.size + 1, 0, none⟩ = some (.int .i64 k1) ∧ w'.cell? ⟨w4.heap.size + 1, 1, none⟩ = some (.int .i64 n1) ∧ w'.cell? ⟨w4.heap.size + 1, 2, none⟩ = some (.string sv) ∧ (convert 22 9 (.slice A b.length c)).run Tryd.prog w' = .ok (.string (S b)) w') w13 := ⟨q5_3, ka3, kb3, va3, vb3, vc3, kk3⟩
        refine take_d (i := 9) (d := 28) (v := ?_) rfl rfl (by kernel_rfl) (by kernel_rfl) (by kernel_rfl) (fun _ _ _ h => h) (Or.inl ⟨by rfl, ?_⟩) (by assumption) ?_
        rotate_left
        · intro w hSw; (try dsimp only at hSw); go_simp; (try with_reducible rfl)
        try simp only [Act.put, List.setIfInBounds_toArray, List.set_cons_zero, List.set_cons_succ]
        refine take_d (i := 12) (d := 31) (v := ?_) rfl rfl (by kernel_rfl) (by kernel_rfl) (by kernel_rfl) (fun _ _ _ h => h) (Or.inl ⟨by rfl, ?_⟩) (by assumption) ?_
        rotate_left
        · intro w hSw; (try dsimp only at hSw); go_simp; (try with_reducible rfl)
        try simp only [Act.put, List.setIfInBounds_toArray, List.set_cons_zero, List.set_cons_succ]
        refine take_d (i := 13) (d := 32) (v := ?_) rfl rfl (by kernel_rfl) (by kernel_rfl) (by kernel_rfl) (fun _ _ _ h => h) (Or.inl ⟨by rfl, ?_⟩) (by assumption) ?_
        rotate_left
        · intro w hSw; (try dsimp only at hSw); go_simp; (try with_reducible rfl)
        try simp only [Act.put, List.setIfInBounds_toArray, List.set_cons_zero, List.set_cons_succ]
        refine take_d (i := 14) (d := 33) (v := ?_) rfl rfl (by kernel_rfl) (by kernel_rfl) (by kernel_rfl) (fun _ _ _ h => h) (Or.inl ⟨by rfl, ?_⟩) (by assumption) ?_
        rotate_left
        · intro w hSw; (try dsimp only at hSw); go_simp; (try with_reducible rfl)
        try simp only [Act.put, List.setIfInBounds_toArray, List.set_cons_zero, List.set_cons_succ]
        refine take_d (i := 15) (d := 34) (v := ?_) rfl rfl (by kernel_rfl) (by kernel_rfl) (by kernel_rfl) (fun _ _ _ h => h) (Or.inl ⟨by rfl, ?_⟩) (by assumption) ?_
        rotate_left
        · intro w hSw; (try dsimp only at hSw); go_simp; (try with_reducible rfl)
        try simp only [Act.put, List.setIfInBounds_toArray, List.set_cons_zero, List.set_cons_succ]
        refine take_d (i := 16) (d := 35) (v := ?_) rfl rfl (by kernel_rfl) (by kernel_rfl) (by kernel_rfl) (fun _ _ _ h => h) (Or.inl ⟨by rfl, ?_⟩) (by assumption) ?_
        rotate_left
        · intro w hSw; (try dsimp only at hSw); go_simp; (try with_reducible rfl)
        try simp only [Act.put, List.setIfInBounds_toArray, List.set_cons_zero, List.set_cons_succ]
        refine wpAnyH_ready (rs := [17]) (by kernel_rfl) (by simp) ?_
        refine AllReadyH.cons rfl (fun K hK => ?_) AllReadyH.nil
        go_simp
        go_at_call 20
        refine (HDk.out _ P4).mono ?_
        rintro e w' ⟨rfl, rfl⟩
        have P5 := P4
        have ka4 := ka3
        have kb4 := kb3
        have va4 := va3
        have vb4 := vb3
        have vc4 := vc3
        have kk4 := kk3
        (try go_wp2_with fail)
        refine hK.out _ _ ⟨q5_3, ka4, kb4, va4, vb4, vc4, kk4⟩ (fun _h4 => ?_)
        clear hK K
        try simp only [Act.put, List.setIfInBounds_toArray, List.set_cons_zero, List.set_cons_succ]
        refine take_d (i := 18) (d := 37) (v := ?_) rfl rfl (by kernel_rfl) (by kernel_rfl) (by kernel_rfl) (fun _ _ _ h => h) (Or.inl ⟨by rfl, ?_⟩) (by assumption) ?_
        rotate_left
        · intro w hSw; (try dsimp only at hSw); go_simp; (try with_reducible rfl)
        try simp only [Act.put, List.setIfInBounds_toArray, List.set_cons_zero, List.set_cons_succ]
        refine take_d (i := 19) (d := 38) (v := ?_) rfl rfl (by kernel_rfl) (by kernel_rfl) (by kernel_rfl) (fun _ _ _ h => h) (Or.inl ⟨by rfl, ?_⟩) (by assumption) ?_
        rotate_left
        · intro w hSw; (try dsimp only at hSw); go_simp; (try with_reducible rfl)
        try simp only [Act.put, List.setIfInBounds_toArray, List.set_cons_zero, List.set_cons_succ]
        refine wpAnyH_ready (rs := [20]) (by kernel_rfl) (by simp) ?_
        refine AllReadyH.cons rfl (fun K hK => ?_) AllReadyH.nil
        go_simp
        go_at_call 32
        refine (HR.out _).mono ?_
        rintro e w15 ⟨rfl, t5⟩
        have P6 := P5.touch0 t5
        obtain ⟨ka5, kb5, va5, vb5, vc5⟩ := P6.cells
        have kk5 := HbS.out _ P6.t
        have q5_5 := q5_r _ (q5_t.trans0 t5)
        have q5_t := q5_t.trans0 t5
        (try go_wp2_with fail)
        refine hK.out _ _ ⟨q5_5, ka5, kb5, va5, vb5, vc5, kk5⟩ (fun _h5 => ?_)
        clear hK K
        try simp only [Act.put, List.setIfInBounds_toArray, List.set_cons_zero, List.set_cons_succ]
        refine take_d (i := 21) (d := 40) (v := ?_) rfl rfl (by kernel_rfl) (by kernel_rfl) (by kernel_rfl) (fun _ _ _ h => h) (Or.inl ⟨by rfl, ?_⟩) (by assumption) ?_
        rotate_left
        · intro w hSw; (try dsimp only at hSw); go_simp; (try with_reducible rfl)
        try simp only [Act.put, List.setIfInBounds_toArray, List.set_cons_zero, List.set_cons_succ]
        refine take_d (i := 22) (d := 41) (v := ?_) rfl rfl (by kernel_rfl) (by kernel_rfl) (by kernel_rfl) (fun _ _ _ h => h) (Or.inl ⟨by rfl, ?_⟩) (by assumption) ?_
        rotate_left
        · intro w hSw; (try dsimp only at hSw); go_simp; (try with_reducible rfl)
        try simp only [Act.put, List.setIfInBounds_toArray, List.set_cons_zero, List.set_cons_succ]
        refine take_d (i := 23) (d := 42) (v := ?_) rfl rfl (by kernel_rfl) (by kernel_rfl) (by kernel_rfl) (fun _ _ _ h => h) (Or.inl ⟨by rfl, ?_⟩) (by assumption) ?_
        rotate_left
        · intro w hSw; (try dsimp only at hSw); go_simp; (try with_reducible rfl)
        try simp only [Act.put, List.setIfInBounds_toArray, List.set_cons_zero, List.set_cons_succ]
        refine take_d (i := 27) (d := 46) (v := ?_) rfl rfl (by kernel_rfl) (by kernel_rfl) (by kernel_rfl) (fun _ _ _ h => h) (Or.inl ⟨by rfl, ?_⟩) (by assumption) ?_
        rotate_left
        · intro w hSw; (try dsimp only at hSw); go_simp; (try with_reducible rfl)
        try simp only [Act.put, List.setIfInBounds_toArray, List.set_cons_zero, List.set_cons_succ]
        refine take_d (i := 28) (d := 47) (v := ?_) rfl rfl (by kernel_rfl) (by kernel_rfl) (by kernel_rfl) (fun _ _ _ h => h) (Or.inl ⟨by rfl, ?_⟩) (by assumption) ?_
        rotate_left
        · intro w hSw; (try dsimp only at hSw); go_simp; (try with_reducible rfl)
        try simp only [Act.put, List.setIfInBounds_toArray, List.set_cons_zero, List.set_cons_succ]
        refine wpAnyH_ready (rs := [24]) (by kernel_rfl) (by simp) ?_
        refine AllReadyH.cons rfl (fun K hK => ?_) AllReadyH.nil
        go_simp
        go_at_call 34
        refine (HF.out _).mono ?_
        rintro e w16 ⟨rfl, t6⟩
        have P7 := P6.touch0 t6
        obtain ⟨ka6, kb6, va6, vb6, vc6⟩ := P7.cells
        have kk6 := HbS.out _ P7.t
        have q5_6 := q5_r _ (q5_t.trans0 t6)
        have q5_t := q5_t.trans0 t6
        (try go_wp2_with fail)
        refine hK.out _ _ ⟨q5_6, ka6, kb6, va6, vb6, vc6, kk6⟩ (fun _h6 => ?_)
        clear hK K
        try simp only [Act.put, List.setIfInBounds_toArray, List.set_cons_zero, List.set_cons_succ]
        refine wpAnyH_ready (rs := [25]) (by kernel_rfl) (by simp) ?_
        refine AllReadyH.cons rfl (fun K hK => ?_) AllReadyH.nil
        go_simp
        go_at_call 33
        refine (HV.out _).mono ?_
        rintro e w17 ⟨A6, c6, rfl, own6, t7, hf6⟩
        have P8 := P7.touch0 t7
        obtain ⟨ka7, kb7, va7, vb7, vc7⟩ := P8.cells
        have kk7 := HbS.out _ P8.t
        have q5_7 := q5_r _ (q5_t.trans0 t7)
        have q5_t := q5_t.trans0 t7
        have q6_r := fun w' (t : Touch [] w17 w') => run_str_of (n := (encV ⟨k1, n1, sv⟩).length) c6 (l := b) (by rw [← Evb.out]) (Rd.touch0 (by rw [Evb.out]; exact own6.rd) t)
        have q6_t := Touch.refl [] w17
        have q6_7 := q6_r _ q6_t
        (try go_wp2_with fail)
        refine hK.out _ _ ⟨q5_7, ka7, kb7, va7, vb7, vc7, kk7⟩ (fun _h7 => ?_)
        clear hK K
        try simp only [Act.put, List.setIfInBounds_toArray, List.set_cons_zero, List.set_cons_succ]
        refine wpAnyH_weak (S := fun w' => (convert 22 9 (.slice A6 (encV ⟨k1, n1, sv⟩).length c6)).run Tryd.prog w' = .ok (.string (S b)) w' ∧ (convert 22 9 (.slice A5 (encTab cs rows).length c5)).run Tryd.prog w' = .ok (.string (S b)) w' ∧ w'.cell? ⟨w4.heap.size, 0, none⟩ = some (.slice SA cs.length c1) ∧ w'.cell? ⟨w4.heap.size, 1, none⟩ = some (.slice SB rows.length c2) ∧ w'.cell? ⟨w4.heap.size + 1, 0, none⟩ = some (.int .i64 k1) ∧ w'.cell? ⟨w4.heap.size + 1, 1, none⟩ = some (.int .i64 n1) ∧ w'.cell? ⟨w4.heap.size + 1, 2, none⟩ = some (.string sv) ∧ (convert 22 9 (.slice A b.length c)).run Tryd.prog w' = .ok (.string (S b)) w') (fun _ h => h.2) _ _ _ _ ?_
        have hH6 : (fun w' : World => (convert 22 9 (.slice A6 (encV ⟨k1, n1, sv⟩).length c6)).run Tryd.prog w' = .ok (.string (S b)) w' ∧ (convert 22 9 (.slice A5 (encTab cs rows).length c5)).run Tryd.prog w' = .ok (.string (S b)) w' ∧ w'.cell? ⟨w4.heap.size, 0, none⟩ = some (.slice SA cs.length c1) ∧ w'.cell? ⟨w4.heap.size, 1, none⟩ = some (.slice SB rows.length c2) ∧ w'.cell? ⟨w4.heap.size + 1, 0, none⟩ = some (.int .i64 k1) ∧ w'.cell? ⟨w4.heap.size + 1, 1, none⟩ = some (.int .i64 n1) ∧ w'.cell? ⟨w4.heap.size + 1, 2, none⟩ = some (.string sv) ∧ (convert 22 9 (.slice A b.length c)).run Tryd.prog w' = .ok (.string (S b)) w') w17 := ⟨q6_7, q5_7, ka7, kb7, va7, vb7, vc7, kk7⟩
        refine take_d (i := 26) (d := 45) (v := ?_) rfl rfl (by kernel_rfl) (by kernel_rfl) (by kernel_rfl) (fun _ _ _ h => h) (Or.inl ⟨by rfl, ?_⟩) (by assumption) ?_
        rotate_left
        · intro w hSw; (try dsimp only at hSw); go_simp; (try with_reducible rfl)
        try simp only [Act.put, List.setIfInBounds_toArray, List.set_cons_zero, List.set_cons_succ]
        refine take_d (i := 29) (d := 48) (v := ?_) rfl rfl (by kernel_rfl) (by kernel_rfl) (by kernel_rfl) (fun _ _ _ h => h) (Or.inl ⟨by rfl, ?_⟩) (by assumption) ?_
        rotate_left
        · intro w hSw; (try dsimp only at hSw); go_simp; (try with_reducible rfl)
        try simp only [Act.put, List.setIfInBounds_toArray, List.set_cons_zero, List.set_cons_succ]
        refine take_d (i := 30) (d := 49) (v := ?_) rfl rfl (by kernel_rfl) (by kernel_rfl) (by kernel_rfl) (fun _ _ _ h => h) (Or.inl ⟨by rfl, ?_⟩) (by assumption) ?_
        rotate_left
        · intro w hSw; (try dsimp only at hSw); go_simp; (try with_reducible rfl)
        try simp only [Act.put, List.setIfInBounds_toArray, List.set_cons_zero, List.set_cons_succ]
        refine take_d (i := 31) (d := 50) (v := ?_) rfl rfl (by kernel_rfl) (by kernel_rfl) (by kernel_rfl) (fun _ _ _ h => h) (Or.inl ⟨by rfl, ?_⟩) (by assumption) ?_
        rotate_left
        · intro w hSw; (try dsimp only at hSw); go_simp; (try with_reducible rfl)
        try simp only [Act.put, List.setIfInBounds_toArray, List.set_cons_zero, List.set_cons_succ]
        refine take_d (i := 32) (d := 51) (v := ?_) rfl rfl (by kernel_rfl) (by kernel_rfl) (by kernel_rfl) (fun _ _ _ h => h) (Or.inl ⟨by rfl, ?_⟩) (by assumption) ?_
        rotate_left
        · intro w hSw; (try dsimp only at hSw); go_simp; (try with_reducible rfl)
        try simp only [Act.put, List.setIfInBounds_toArray, List.set_cons_zero, List.set_cons_succ]
        refine wpAnyH_done (by kernel_rfl) ?_ _
        go_wp2_with fail
        go_meet
        exact ⟨rfl, P8⟩
  case rest =>
    obtain ⟨rfl, P1⟩ := hcut
    clear P0
    obtain ⟨k0c, k1c, v0c, v1c, v2c⟩ := P1.cells
    have Hbi := Lib.hid (bad_any g1 B1 l1 bi _ P1.i)
    have Hbk := Lib.hid fun wx (p : PR b g1 g2 w4.heap.size (w4.heap.size + 1) B1 B2 l1 l2 bi bk SA SB c1 c2 cs rows ⟨k1, n1, sv⟩ w wx) => bad_any g2 B2 l2 bk wx p.k
    have hk := P1.k
    have hi := P1.i
    have PT := P1.t
    obtain ⟨ap1, ap2, ap3, ap4⟩ := P1.ap
    have gs := P1.gs
    have ti := P1.ti
    have vi := P1.vi
    have heq := eqIn_val zeroVD zeroVD
    rw [(eqV_iff _ _).2 rfl] at heq
    simp only [zeroVD] at heq
    have hgd := guard_val
    clear Hbk P1
    rcases bi with _ | _
    · clear ti hi
      rcases bk with _ | _
      · clear vi
        go_wp2_with fail
        refine Hbi.out.mono ?_
        rintro e w' ⟨rfl, rfl⟩
        have hk5 := hk
        have T5 := PT
        have y0 := v0c
        have y1 := v1c
        have y2 := v2c
        clear v0c v1c v2c
        go_wp2_with fail
        refine (bad_any g2 B2 l2 false _ hk5).mono ?_
        rintro e w' ⟨rfl, rfl⟩
        go_wp2_with fail
        refine (Haw.out _ T5).mono ?_
        rintro e w6 ⟨rfl, t6⟩
        go_wp2
        go_ret
        exact ⟨rfl, T5.trans0 t6⟩
      · have hz := vi rfl
        injection hz with e1 e2 e3
        subst e1 e2 e3
        clear vi
        go_wp2_with fail
        refine Hbi.out.mono ?_
        rintro e w' ⟨rfl, rfl⟩
        have hk5 := hk
        have T5 := PT
        have y0 := v0c
        have y1 := v1c
        have y2 := v2c
        clear v0c v1c v2c
        go_wp2_with fail
        refine (bad_any g2 B2 l2 true _ hk5).mono ?_
        rintro e w' ⟨rfl, rfl⟩
        go_wp2_with fail
        refine (Haw.out _ T5).mono ?_
        rintro e w6 ⟨rfl, t6⟩
        go_wp2
        go_ret
        exact ⟨rfl, T5.trans0 t6⟩
    · obtain ⟨rfl, rfl⟩ := ti rfl
      have Hint := Lib.hid (inInt_bad g1 B1 l1 _ hi)
      clear ti hi
      rcases bk with _ | _
      · clear vi
        go_wp2_with fail
        refine Hbi.out.mono ?_
        rintro e w' ⟨rfl, rfl⟩
        go_wp2_with fail
        refine (Hint.out).mono ?_
        rintro e w5 ⟨rfl, B5, hi5, t5, hf5⟩
        have hk5 := hk.touch t5 (by simp; omega) (fun x hx => by have := ap2 x hx; simp; omega)
        have T5 := PT.trans t5 (fun x hx => .inr (by simp at hx; omega))
        have y0 := t5.cell v0c (by simp; omega)
        have y1 := t5.cell v1c (by simp; omega)
        have y2 := t5.cell v2c (by simp; omega)
        clear v0c v1c v2c
        go_wp2_with fail
        refine (bad_any g2 B2 l2 false _ hk5).mono ?_
        rintro e w' ⟨rfl, rfl⟩
        go_wp2_with fail
        refine (Haw.out _ T5).mono ?_
        rintro e w6 ⟨rfl, t6⟩
        go_wp2
        go_ret
        exact ⟨rfl, T5.trans0 t6⟩
      · have hz := vi rfl
        injection hz with e1 e2 e3
        subst e1 e2 e3
        clear vi
        go_wp2_with fail
        refine Hbi.out.mono ?_
        rintro e w' ⟨rfl, rfl⟩
        go_wp2_with fail
        refine (Hint.out).mono ?_
        rintro e w5 ⟨rfl, B5, hi5, t5, hf5⟩
        have hk5 := hk.touch t5 (by simp; omega) (fun x hx => by have := ap2 x hx; simp; omega)
        have T5 := PT.trans t5 (fun x hx => .inr (by simp at hx; omega))
        have y0 := t5.cell v0c (by simp; omega)
        have y1 := t5.cell v1c (by simp; omega)
        have y2 := t5.cell v2c (by simp; omega)
        clear v0c v1c v2c
        go_wp2_with fail
        refine (bad_any g2 B2 l2 true _ hk5).mono ?_
        rintro e w' ⟨rfl, rfl⟩
        go_wp2_with fail
        refine (Haw.out _ T5).mono ?_
        rintro e w6 ⟨rfl, t6⟩
        go_wp2
        go_ret
        exact ⟨rfl, T5.trans0 t6⟩
end Go.Proofs.YtgpadejkmpfafaaDoor

/- A slice of bytes that came in, as the walks take it. -/
namespace Go.Proofs.YtgpadejkmpfafaaDoor
open Go.RowKit

theorem bytes_of_row {w : World} {x : Addr} {len : Nat} {zs : List Int} (hl : len ≤ zs.length) (hm : len ≤ maxLen)
    (hcell : ∀ i, i < zs.length → w.cell? (x.add i) = some (.int .u8 (zs.getD i 0))) (hw : ∀ n ∈ zs, (Lit.int .u8 n).wf = true) :
    ∃ l : List UInt8, l.length = len ∧ RdB w (some x) l ∧ l.length ≤ maxLen := by
  have hwz : ∀ n ∈ zs, 0 ≤ n ∧ n ≤ 255 := fun n hn => by
    have := hw n hn
    simpa [Lit.wf, IntKind.min, IntKind.max, IntKind.signed, IntKind.bits] using this
  refine ⟨(zs.take len).map fun n => UInt8.ofNat n.toNat, by simp; omega, fun _ => ⟨x, rfl, fun j u hu => ?_⟩, by simp; omega⟩
  have hj : j < len := by
    have := (List.getElem?_eq_some_iff.1 hu).1
    simp at this; omega
  rw [hcell j (by omega)]
  simp only [List.getElem?_map, List.getElem?_take, hj, if_true] at hu
  have hjz : j < zs.length := by omega
  rw [List.getElem?_eq_getElem hjz] at hu
  simp only [Option.map_some, Option.some.injEq] at hu
  subst hu
  have hb := hwz zs[j] (List.getElem_mem hjz)
  simp only [List.getD, List.getElem?_eq_getElem hjz, Option.getD_some, B]
  congr 2
  simp
  omega
end Go.Proofs.YtgpadejkmpfafaaDoor

/- The table of frame.Sum as the rows list it: what it holds when a call begins; a world that holds it. -/
namespace Go.Proofs.YtgpadejkmpfafaaDoor
open Go.ChangeShapes Go.WideShapes Go.ChangeAt Go.RowKit

theorem gTab : Tryd.prog.globalNamed "bywash/frame.half" = some 0 := by kernel_rfl
theorem gTabType : (Tryd.prog.globals[0]?).map (·.type) = some 72 := by kernel_rfl
theorem cellsTab : Tryd.prog.cellsOf 72 = 16 := by kernel_rfl
theorem cellsU32 : Tryd.prog.cellsOf 24 = 1 := by kernel_rfl
theorem half_at {W : World} (h : laidMetH Tryd.prog [("bywash/frame.half", Rows.laid_bywash_frame_half)] W) : HalfAt W := by
  have hT : Lib.TabIs Tryd.prog W "bywash/frame.half" .u32 (half.map fun (n : Nat) => (n : Int)) :=
    Lib.tabIs_of_head (rest := []) gTab gTabType Tryd.underlying72 Tryd.underlying24 cellsU32 cellsTab h
  intro j hj
  have := hT.cell gTab j (by simpa [half] using hj)
  rw [this]
  congr 2
  have hjl : j < half.length := by simpa [half] using hj
  simp [List.getD, hjl]
/-- a world for the witness: the settled one, the table holding what its initialiser lays -/
noncomputable def laidWorld (os : Os) : World :=
  { World.holding Tryd.prog os ⟨#[], #[], []⟩ with heap := (World.holding Tryd.prog os ⟨#[], #[], []⟩).heap.modify 0 fun
      | .cells _ t frozen => .cells #[.int .u32 0, .int .u32 498536548, .int .u32 997073096, .int .u32 651767980, .int .u32 1994146192, .int .u32 1802195444, .int .u32 1303535960, .int .u32 1342533948, .int .u32 3988292384, .int .u32 4027552580, .int .u32 3604390888, .int .u32 3412177804, .int .u32 2607071920, .int .u32 2262029012, .int .u32 2685067896, .int .u32 3183342108] t frozen
      | o => o }
end Go.Proofs.YtgpadejkmpfafaaDoor
