/- bywashlaw06.DiskPlays: the walk of the law. For every capacity and every script. -/
import Derived.Test.YtgpadejkmpfafaaStepD
import Derived.Deep.DeepCutAuto
namespace Go.Proofs.Ytgpadejkmpfafaa
open Go.RowKit

theorem smallO_le {o : OpD} (h : smallO o = true) : o.data.length ≤ 300 := by simp [smallO] at h; exact h.1

/-- one step, of whatever kind -/
theorem step_any (g : Nat) (fp : List Nat) (V : Fl) (r : DR) (h : Nat) (fq : List Nat) (rr : RR) (o : OpD) (w : World) (P : PairAt w g fp V r h fq (toR V) rr) (hs : SameR r rr) (hdone : r.done < 1073741824) (hsm : smallO o = true)
    (rd : RdB w o.dA o.data) (bn : I64 o.n) (bks : ∀ k ∈ o.keep, -9223372036854775808 ≤ k ∧ k ≤ 9223372036854775807) (hkb : ∀ w', Touch (fp ++ fq) w w' → RdI w' o.kA o.keep) :
    Calls Try.prog 23 #[.pointer (some ⟨g, 0, none⟩), .pointer (some ⟨h, 0, none⟩), .agg #[.int .i64 o.kind, .int .i64 o.file, .int .i64 o.n, .slice o.dA o.data.length o.dc, .slice o.kA o.keep.length o.kc]] w fun e w' => StepPost g fp h fq r w e w' := by
  have hdl := smallO_le hsm
  obtain ⟨k, file, n, dA, dc, data, kA, kc, keep⟩ := o
  dsimp only at *
  by_cases h1 : k = 1
  · subst h1; exact step_append g fp V r h fq rr file n dA data.length dc data rfl (by omega) _ w P hs hdone rd
  by_cases h2 : k = 2
  · subst h2; exact step_sync g fp V r h fq rr file n _ _ w P hs hdone
  by_cases h3 : k = 3
  · subst h3; exact step_cut g fp V r h fq rr file n _ _ w P hs hdone
  by_cases h4 : k = 4
  · subst h4; exact step_read g fp V r h fq rr file n _ _ w P hs
  by_cases h5 : k = 5
  · subst h5; exact step_arm g fp V r h fq rr file n _ _ w P hs bn.1 bn.2
  by_cases h6 : k = 6
  · subst h6; exact step_crash g fp V r h fq rr file n _ kA keep.length kc keep rfl w P hs bks hkb
  by_cases h7 : k = 7
  · subst h7; exact step_limit g fp V r h fq rr file n _ _ w P hs
  · exact step_other g fp V r h fq rr k file n _ _ (by omega) w P hs

def V00 : Fl := [([], 0), ([], 0), ([], 0), ([], 0)]
theorem toR_V00 : toR V00 = [([], []), ([], []), ([], []), ([], [])] := rfl
theorem rd_new (w : World) (n : Int) : RdAt (w.alloc (.cells #[.slice none 0 0, .slice none 0 0, .slice none 0 0, .slice none 0 0, .slice none 0 0, .slice none 0 0, .slice none 0 0, .slice none 0 0, .int .i64 n, .int .i64 0, .int .i64 0, .bool false, .bool false] 50)) w.heap.size [w.heap.size] (toR V00) ⟨n, 0, 0, false, false⟩ := by
  refine ⟨List.replicate 8 ⟨none, 0, []⟩, ⟨heap_alloc_new w _, fun i hi => ?_, fun i hi => ?_, fun i j hi hj hij => ?_⟩, rfl, rfl, rfl⟩
  · rw [List.getElem_replicate]; exact World.ownsRow_nil _ _ _ _
  · rw [List.getElem_replicate]; simp [fpo]
  · rw [List.getElem_replicate]; simp [fpo]

/-- what a cell holds, as a function of the world -/
def cv (h i : Nat) (w : World) : Value := (w.cell? ⟨h, i, none⟩).getD (.int .i64 0)
theorem cv_of {h i : Nat} {w : World} {v : Value} (hc : w.cell? ⟨h, i, none⟩ = some v) : cv h i w = v := by unfold cv; rw [hc]; rfl
abbrev CvS (h : Nat) (w' : World) : Prop := w'.cell? ⟨h, 8, none⟩ = some (cv h 8 w') ∧ w'.cell? ⟨h, 10, none⟩ = some (cv h 10 w') ∧ w'.cell? ⟨h, 12, none⟩ = some (cv h 12 w')
theorem PairAt.cvs {w : World} {g : Nat} {fp : List Nat} {V : Fl} {r : DR} {h : Nat} {fq : List Nat} {RV : RFl} {rr : RR} (P : PairAt w g fp V r h fq RV rr) : CvS h w := by
  obtain ⟨q8, q9, q10, q11, q12⟩ := P.rd.cells
  exact ⟨by rw [cv_of q8]; exact q8, by rw [cv_of q10]; exact q10, by rw [cv_of q12]; exact q12⟩

/-- five cells of one block -/
abbrev Oc5 (b : Nat) (a0 a1 a2 a3 a4 : Value) (w' : World) : Prop := w'.cell? ⟨b, 0, none⟩ = some a0 ∧ w'.cell? ⟨b, 1, none⟩ = some a1 ∧ w'.cell? ⟨b, 2, none⟩ = some a2 ∧ w'.cell? ⟨b, 3, none⟩ = some a3 ∧ w'.cell? ⟨b, 4, none⟩ = some a4
theorem oc_touch {b : Nat} {a0 a1 a2 a3 a4 : Value} {w w' : World} {fx : List Nat} (h : Oc5 b a0 a1 a2 a3 a4 w) (T : Touch fx w w') (hn : b ∉ fx) : Oc5 b a0 a1 a2 a3 a4 w' :=
  ⟨T.cell h.1 hn, T.cell h.2.1 hn, T.cell h.2.2.1 hn, T.cell h.2.2.2.1 hn, T.cell h.2.2.2.2 hn⟩
theorem oc_new (w : World) (a0 a1 a2 a3 a4 : Value) (T : TypeId) : Oc5 w.heap.size a0 a1 a2 a3 a4 (w.alloc (.cells #[a0, a1, a2, a3, a4] T)).drew := by
  have hb := heap_alloc_new w (.cells #[a0, a1, a2, a3, a4] T)
  exact ⟨cell_blk hb rfl, cell_blk hb rfl, cell_blk hb rfl, cell_blk hb rfl, cell_blk hb rfl⟩

section
variable {P : Program} {ops : Array Oper} {Q : Exit → Act → World → Prop} {md : Region.Mode} {S S' : World → Prop}
/-- a walk that holds more holds less -/
theorem wpAnyH_weak (hS : ∀ w, S w → S' w) : ∀ (fuel : Nat) (listed : Array Bool) (a : Act) (w : World), wpAnyH P md ops Q S fuel listed a w → wpAnyH P md ops Q S' fuel listed a w
  | 0, _, _, _, h => h
  | fuel + 1, _, _, _, h => ⟨h.1, fun i hi => wpOp_mono (fun a' w' h' => ⟨hS w' h'.1, wpAnyH_weak hS fuel _ a' w' h'.2⟩) (h.2 i hi)⟩
/-- 'wpAnyH_take', the operation's temporary told by its number -/
theorem take_d {i d : Nat} {oi : Oper} {v : Value} {fuel : Nat} {listed : Array Bool} {a : Act} {w : World} (hi : ops[i]? = some oi) (hd : oi.dst = some d)
    (hs : Region.noSelect ops = true) (hf : Region.free md ops listed i = true) (hr : (Region.ready md ops listed).contains i = true)
    (hQ : ∀ c a w, Q (.panic c) (a.put oi.dst v) w → Q (.panic c) a w) (hy : YieldsIf P ops S oi v a) (hS : S w)
    (h : wpAnyH P md ops Q S fuel (listed.setIfInBounds i true) (a.put (some d) v) w) : wpAnyH P md ops Q S (fuel + 1) listed a w :=
  wpAnyH_take hi hs hf hr hQ hy hS (by rw [hd]; exact h)
end

/-- what holds at each round's head -/
structure PlayAt (w : World) (g h k : Nat) (wr : World) : Prop where
  ex : ∃ V fp fq r rr, PairAt wr g fp V r h fq (toR V) rr ∧ SameR r rr ∧ r.done ≤ k ∧ (∀ b ∈ fp ++ fq, w.heap.size ≤ b)
  t : Touch [] w wr

set_option maxRecDepth 100000 in
set_option maxHeartbeats 6400000 in
theorem plays_law (cap : Int) (A : Option Addr) (c : Nat) (l : List OpD) (w : World) (ho : OpsAt w A l) (hl : l.length ≤ 9223372036854775807) :
    Calls Try.prog 6 #[.int .i64 cap, .slice A l.length c] w fun e w' => e = .returned (.bool true) ∧ Touch [] w w' := by
  by_cases hin : 0 ≤ cap ∧ cap ≤ 1073741824
  · obtain ⟨hc0, hc1⟩ := hin
    go_enter Try.func6, Try.ntmps6
    go_wp2_with fail
    refine (new_dk cap w ⟨hc0, hc1⟩).mono ?_
    rintro e w1 ⟨rfl, hd1, ht1⟩
    go_wp2_with fail
    refine (small_any A c l w1 (ho.touch0 ht1) hl).mono ?_
    rintro e w2 ⟨rfl, ht2⟩
    have T2 := ht1.trans0 ht2
    cases hsm : (l.all smallO && decide (l.length ≤ 60))
    · clear hd1
      go_wp2_with (go_at_call 10; refine (awake6_any _).mono ?_; rintro e w3 ⟨rfl, ht3⟩)
      go_ret
      exact ⟨rfl, T2.trans0 ht3⟩
    have hall : ∀ o ∈ l, smallO o = true := by simp at hsm; exact hsm.1
    have hl60 : l.length ≤ 60 := by simp at hsm; exact hsm.2
    have Hall := Lib.hid hall
    have hd2 := hd1.step ht2 (by simp)
    have hgl := hd2.lt w.heap.size (by simp)
    have tx := (Touch.refl [] w2).alloc (.cells #[.slice none 0 0, .slice none 0 0, .slice none 0 0, .slice none 0 0, .slice none 0 0, .slice none 0 0, .slice none 0 0, .slice none 0 0, .int .i64 cap, .int .i64 0, .int .i64 0, .bool false, .bool false] 50)
    have P0 : Hid (PlayAt w w.heap.size w2.heap.size 0 (w2.alloc (.cells #[.slice none 0 0, .slice none 0 0, .slice none 0 0, .slice none 0 0, .slice none 0 0, .slice none 0 0, .slice none 0 0, .slice none 0 0, .int .i64 cap, .int .i64 0, .int .i64 0, .bool false, .bool false] 50))) := Lib.hid
      ⟨⟨V00, _, _, _, _, ⟨hd2.step tx (by simp), rd_new w2 cap, by simp; omega⟩, ⟨rfl, rfl, rfl, rfl, fun h => by have h2 : (0 : Int) ≤ -1 := h; omega, by simp, by simp⟩, by simp, by simp; have := T2.size; omega⟩, T2.trans0 tx⟩
    clear hsm hall hd1 hd2
    go_wp2_with fail
    obtain ⟨G, hG⟩ : ∃ G, G = w.heap.size := ⟨_, rfl⟩
    obtain ⟨H, hH⟩ : ∃ H, H = w2.heap.size := ⟨_, rfl⟩
    have hGw : w.heap.size ≤ G := by omega
    have hHw : w.heap.size ≤ H := by rw [hH]; exact T2.size
    rw [← hG] at P0 ⊢
    rw [← hH] at P0 ⊢
    clear hG hH tx T2 hgl ht1 ht2
    go_loopw [41] (fun i wr => ∃ k : Nat, k ≤ l.length ∧ i = .int .i64 k ∧ PlayAt w G H k wr) (fun i _ => l.length - (intOf i).toNat)
    case atStart => exact ⟨0, by omega, rfl, P0.out⟩
    case round =>
      clear P0
      obtain ⟨k, hk, rfl, ⟨V, fp, fq, r, rr, P, hs, hdk, hfr⟩, ht⟩ := hrel
      by_cases hlt : k < l.length
      · obtain ⟨ad, b, off, rfl, hadd, hok⟩ := ho.touch0 ht k hlt
        obtain ⟨ad', b', off', e1, hadd', hok0⟩ := ho k hlt
        obtain rfl : ad = ad' := by injection e1
        rw [hadd] at hadd'
        obtain ⟨rfl, rfl⟩ : b = b' ∧ off = off' := by injection hadd' with e1 e2 _; exact ⟨e1, e2⟩
        have hsmo := Hall.out l[k] (List.getElem_mem hlt)
        obtain ⟨o, hoe⟩ : ∃ o, o = l[k] := ⟨_, rfl⟩
        rw [← hoe] at hok hok0 hsmo
        clear hoe
        have c0 := hok.c0
        have c1 := hok.c1
        have c2 := hok.c2
        have c3 := hok.c3
        have c4 := hok.c4
        have hrd := hok.rd
        have bn := hok.bn
        have bks := hok.bks
        have hdl := smallO_le hsmo
        have hkb : ∀ w', Touch [] w w' → RdI w' o.kA o.keep := fun w' T => Rd.touch0 hok0.rk T
        have ta := (Touch.refl [] wr).alloc (.cells #[.int .i64 o.kind, .int .i64 o.file, .int .i64 o.n, .slice o.dA o.data.length o.dc, .slice o.kA o.keep.length o.kc] 41)
        have Pd := P.keep (ta.drew)
        have hTd := ht.trans0 ta.drew
        have hstep := step_any G fp V r H fq rr o _ Pd hs (by omega) hsmo (Rd.touch0 hrd ta.drew) bn bks (fun w' T => hkb w' (hTd.trans T (fun b hb => .inr (hfr b hb))))
        have Hstep := Lib.hid hstep
        have Cvd := Pd.cvs
        have Ocd := oc_new wr (.int .i64 o.kind) (.int .i64 o.file) (.int .i64 o.n) (.slice o.dA o.data.length o.dc) (.slice o.kA o.keep.length o.kc) 41
        have hwn : wr.heap.size ∉ fp ++ fq := fun hm => by
          rcases List.mem_append.1 hm with h1 | h1
          · have := P.dk.lt _ h1; omega
          · have := P.rd.lt _ h1; omega
        have hfr' : ∀ b ∈ fp ++ fq, w.heap.size ≤ b := hfr
        clear hok hok0 hadd' hkb hstep P Pd hrd bn bks
        go_upto_region 10 with (fail)
        go_cut [83] (fun c wx => c = .bool false ∧ PlayAt w G H (k + 1) wx)
        case first =>
          refine wp_region_held_drew (S := fun w' => w'.cell? ⟨wr.heap.size, 0, none⟩ = some (.int .i64 o.kind) ∧ w'.cell? ⟨wr.heap.size, 1, none⟩ = some (.int .i64 o.file) ∧ w'.cell? ⟨wr.heap.size, 2, none⟩ = some (.int .i64 o.n) ∧ w'.cell? ⟨wr.heap.size, 3, none⟩ = some (.slice o.dA o.data.length o.dc) ∧ w'.cell? ⟨wr.heap.size, 4, none⟩ = some (.slice o.kA o.keep.length o.kc)) (by kernel_rfl) Ocd (fun hHeld => ?_)
          refine take_d (i := 0) (d := 45) (v := ?_) rfl rfl (by kernel_rfl) (by kernel_rfl) (by kernel_rfl) (fun _ _ _ h => h) (Or.inl ⟨by rfl, ?_⟩) (by assumption) ?_
          rotate_left
          · intro w hSw; (try dsimp only at hSw); go_simp; (try with_reducible rfl)
          try simp only [Act.put, List.setIfInBounds_toArray, List.set_cons_zero, List.set_cons_succ]
          refine take_d (i := 1) (d := 46) (v := ?_) rfl rfl (by kernel_rfl) (by kernel_rfl) (by kernel_rfl) (fun _ _ _ h => h) (Or.inl ⟨by rfl, ?_⟩) (by assumption) ?_
          rotate_left
          · intro w hSw; (try dsimp only at hSw); go_simp; (try with_reducible rfl)
          try simp only [Act.put, List.setIfInBounds_toArray, List.set_cons_zero, List.set_cons_succ]
          refine take_d (i := 2) (d := 47) (v := ?_) rfl rfl (by kernel_rfl) (by kernel_rfl) (by kernel_rfl) (fun _ _ _ h => h) (Or.inl ⟨by rfl, ?_⟩) (by assumption) ?_
          rotate_left
          · intro w hSw; (try dsimp only at hSw); go_simp; (try with_reducible rfl)
          try simp only [Act.put, List.setIfInBounds_toArray, List.set_cons_zero, List.set_cons_succ]
          refine wpAnyH_ready (rs := [3]) (by kernel_rfl) (by simp) ?_
          refine AllReadyH.cons rfl (fun K hK => ?_) AllReadyH.nil
          go_simp
          go_at_call 23
          refine (Hstep.out).mono ?_
          rintro e w1 ⟨rfl, V1, r1, ⟨fp1, fq1, rr1, P1, hs1, T1, f1, g1⟩, hd1⟩
          have Oc1 := oc_touch Ocd T1 hwn
          obtain ⟨a8, a9, a10, a11⟩ := P1.dk.cells
          obtain ⟨q8, q9, q10, q11, q12⟩ := P1.rd.cells
          rw [hs1.done] at q10
          rw [hs1.cap] at q8
          rw [hs1.down] at q12
          have hu1 : rused (toR V1) ≤ 1073741824 := (by rw [rused_toR]; exact P1.dk.facts.2.1)
          (try go_wp2_with fail)
          refine hK.out _ _ Oc1 (fun _hHeld1 => ?_)
          clear hK K
          try simp only [Act.put, List.setIfInBounds_toArray, List.set_cons_zero, List.set_cons_succ]
          refine wpAnyH_weak (S := fun w' => w'.cell? ⟨H, 8, none⟩ = some (.int .i64 r1.cap) ∧ w'.cell? ⟨H, 10, none⟩ = some (.int .i64 r1.done) ∧ w'.cell? ⟨H, 12, none⟩ = some (.bool r1.down) ∧ w'.cell? ⟨wr.heap.size, 0, none⟩ = some (.int .i64 o.kind) ∧ w'.cell? ⟨wr.heap.size, 1, none⟩ = some (.int .i64 o.file) ∧ w'.cell? ⟨wr.heap.size, 2, none⟩ = some (.int .i64 o.n) ∧ w'.cell? ⟨wr.heap.size, 3, none⟩ = some (.slice o.dA o.data.length o.dc) ∧ w'.cell? ⟨wr.heap.size, 4, none⟩ = some (.slice o.kA o.keep.length o.kc)) (fun _ h => h.2.2.2) _ _ _ _ ?_
          have hHeld2 : (fun w' : World => w'.cell? ⟨H, 8, none⟩ = some (.int .i64 r1.cap) ∧ w'.cell? ⟨H, 10, none⟩ = some (.int .i64 r1.done) ∧ w'.cell? ⟨H, 12, none⟩ = some (.bool r1.down) ∧ w'.cell? ⟨wr.heap.size, 0, none⟩ = some (.int .i64 o.kind) ∧ w'.cell? ⟨wr.heap.size, 1, none⟩ = some (.int .i64 o.file) ∧ w'.cell? ⟨wr.heap.size, 2, none⟩ = some (.int .i64 o.n) ∧ w'.cell? ⟨wr.heap.size, 3, none⟩ = some (.slice o.dA o.data.length o.dc) ∧ w'.cell? ⟨wr.heap.size, 4, none⟩ = some (.slice o.kA o.keep.length o.kc)) w1 := ⟨q8, q10, q12, Oc1⟩
          clear q8 q9 q10 q11 q12 a9 hHeld _hHeld1
          refine take_d (i := 4) (d := 49) (v := ?_) rfl rfl (by kernel_rfl) (by kernel_rfl) (by kernel_rfl) (fun _ _ _ h => h) (Or.inl ⟨by rfl, ?_⟩) (by assumption) ?_
          rotate_left
          · intro w hSw; (try dsimp only at hSw); go_simp; (try with_reducible rfl)
          try simp only [Act.put, List.setIfInBounds_toArray, List.set_cons_zero, List.set_cons_succ]
          refine take_d (i := 5) (d := 50) (v := ?_) rfl rfl (by kernel_rfl) (by kernel_rfl) (by kernel_rfl) (fun _ _ _ h => h) (Or.inl ⟨by rfl, ?_⟩) (by assumption) ?_
          rotate_left
          · intro w hSw; (try dsimp only at hSw); go_simp; (try with_reducible rfl)
          try simp only [Act.put, List.setIfInBounds_toArray, List.set_cons_zero, List.set_cons_succ]
          refine take_d (i := 6) (d := 51) (v := ?_) rfl rfl (by kernel_rfl) (by kernel_rfl) (by kernel_rfl) (fun _ _ _ h => h) (Or.inl ⟨by rfl, ?_⟩) (by assumption) ?_
          rotate_left
          · intro w hSw; (try dsimp only at hSw); go_simp; (try with_reducible rfl)
          try simp only [Act.put, List.setIfInBounds_toArray, List.set_cons_zero, List.set_cons_succ]
          refine take_d (i := 8) (d := 53) (v := ?_) rfl rfl (by kernel_rfl) (by kernel_rfl) (by kernel_rfl) (fun _ _ _ h => h) (Or.inl ⟨by rfl, ?_⟩) (by assumption) ?_
          rotate_left
          · intro w hSw; (try dsimp only at hSw); go_simp; (try with_reducible rfl)
          try simp only [Act.put, List.setIfInBounds_toArray, List.set_cons_zero, List.set_cons_succ]
          refine take_d (i := 9) (d := 54) (v := ?_) rfl rfl (by kernel_rfl) (by kernel_rfl) (by kernel_rfl) (fun _ _ _ h => h) (Or.inl ⟨by rfl, ?_⟩) (by assumption) ?_
          rotate_left
          · intro w hSw; (try dsimp only at hSw); go_simp; (try with_reducible rfl)
          try simp only [Act.put, List.setIfInBounds_toArray, List.set_cons_zero, List.set_cons_succ]
          refine take_d (i := 10) (d := 55) (v := ?_) rfl rfl (by kernel_rfl) (by kernel_rfl) (by kernel_rfl) (fun _ _ _ h => h) (Or.inl ⟨by rfl, ?_⟩) (by assumption) ?_
          rotate_left
          · intro w hSw; (try dsimp only at hSw); go_simp; (try with_reducible rfl)
          try simp only [Act.put, List.setIfInBounds_toArray, List.set_cons_zero, List.set_cons_succ]
          refine take_d (i := 11) (d := 56) (v := ?_) rfl rfl (by kernel_rfl) (by kernel_rfl) (by kernel_rfl) (fun _ _ _ h => h) (Or.inl ⟨by rfl, ?_⟩) (by assumption) ?_
          rotate_left
          · intro w hSw; (try dsimp only at hSw); go_simp; (try with_reducible rfl)
          try simp only [Act.put, List.setIfInBounds_toArray, List.set_cons_zero, List.set_cons_succ]
          refine wpAnyH_ready (rs := [7]) (by kernel_rfl) (by simp) ?_
          refine AllReadyH.cons rfl (fun K hK => ?_) AllReadyH.nil
          go_simp
          go_at_call 21
          refine (done_any G r1.done _ a10).mono ?_
          rintro e w' ⟨rfl, rfl⟩
          (try go_wp2_with fail)
          refine hK.out _ _ hHeld2 (fun _hHeld3 => ?_)
          clear hK K
          try simp only [Act.put, List.setIfInBounds_toArray, List.set_cons_zero, List.set_cons_succ]
          refine take_d (i := 12) (d := 57) (v := ?_) rfl rfl (by kernel_rfl) (by kernel_rfl) (by kernel_rfl) (fun _ _ _ h => h) (Or.inl ⟨by rfl, ?_⟩) (by assumption) ?_
          rotate_left
          · intro w hSw; (try dsimp only at hSw); go_simp; (try with_reducible rfl)
          try simp only [Act.put, List.setIfInBounds_toArray, List.set_cons_zero, List.set_cons_succ]
          refine take_d (i := 13) (d := 58) (v := ?_) rfl rfl (by kernel_rfl) (by kernel_rfl) (by kernel_rfl) (fun _ _ _ h => h) (Or.inl ⟨by rfl, ?_⟩) (by assumption) ?_
          rotate_left
          · intro w hSw; (try dsimp only at hSw); go_simp; (try with_reducible rfl)
          try simp only [Act.put, List.setIfInBounds_toArray, List.set_cons_zero, List.set_cons_succ]
          refine take_d (i := 14) (d := 59) (v := ?_) rfl rfl (by kernel_rfl) (by kernel_rfl) (by kernel_rfl) (fun _ _ _ h => h) (Or.inl ⟨by rfl, ?_⟩) (by assumption) ?_
          rotate_left
          · intro w hSw; (try dsimp only at hSw); go_simp; (try with_reducible rfl)
          try simp only [Act.put, List.setIfInBounds_toArray, List.set_cons_zero, List.set_cons_succ]
          refine take_d (i := 15) (d := 60) (v := ?_) rfl rfl (by kernel_rfl) (by kernel_rfl) (by kernel_rfl) (fun _ _ _ h => h) (Or.inl ⟨by rfl, ?_⟩) (by assumption) ?_
          rotate_left
          · intro w hSw; (try dsimp only at hSw); go_simp; (try with_reducible rfl)
          try simp only [Act.put, List.setIfInBounds_toArray, List.set_cons_zero, List.set_cons_succ]
          refine take_d (i := 17) (d := 62) (v := ?_) rfl rfl (by kernel_rfl) (by kernel_rfl) (by kernel_rfl) (fun _ _ _ h => h) (Or.inl ⟨by rfl, ?_⟩) (by assumption) ?_
          rotate_left
          · intro w hSw; (try dsimp only at hSw); go_simp; (try with_reducible rfl)
          try simp only [Act.put, List.setIfInBounds_toArray, List.set_cons_zero, List.set_cons_succ]
          refine take_d (i := 18) (d := 63) (v := ?_) rfl rfl (by kernel_rfl) (by kernel_rfl) (by kernel_rfl) (fun _ _ _ h => h) (Or.inl ⟨by rfl, ?_⟩) (by assumption) ?_
          rotate_left
          · intro w hSw; (try dsimp only at hSw); go_simp; (try with_reducible rfl)
          try simp only [Act.put, List.setIfInBounds_toArray, List.set_cons_zero, List.set_cons_succ]
          refine take_d (i := 19) (d := 64) (v := ?_) rfl rfl (by kernel_rfl) (by kernel_rfl) (by kernel_rfl) (fun _ _ _ h => h) (Or.inl ⟨by rfl, ?_⟩) (by assumption) ?_
          rotate_left
          · intro w hSw; (try dsimp only at hSw); go_simp; (try with_reducible rfl)
          try simp only [Act.put, List.setIfInBounds_toArray, List.set_cons_zero, List.set_cons_succ]
          refine take_d (i := 20) (d := 65) (v := ?_) rfl rfl (by kernel_rfl) (by kernel_rfl) (by kernel_rfl) (fun _ _ _ h => h) (Or.inl ⟨by rfl, ?_⟩) (by assumption) ?_
          rotate_left
          · intro w hSw; (try dsimp only at hSw); go_simp; (try with_reducible rfl)
          try simp only [Act.put, List.setIfInBounds_toArray, List.set_cons_zero, List.set_cons_succ]
          refine wpAnyH_ready (rs := [16]) (by kernel_rfl) (by simp) ?_
          refine AllReadyH.cons rfl (fun K hK => ?_) AllReadyH.nil
          go_simp
          go_at_call 19
          refine (down_any G r1.down _ a11).mono ?_
          rintro e w' ⟨rfl, rfl⟩
          (try go_wp2_with fail)
          refine hK.out _ _ hHeld2 (fun _hHeld4 => ?_)
          clear hK K
          try simp only [Act.put, List.setIfInBounds_toArray, List.set_cons_zero, List.set_cons_succ]
          refine take_d (i := 21) (d := 66) (v := ?_) rfl rfl (by kernel_rfl) (by kernel_rfl) (by kernel_rfl) (fun _ _ _ h => h) (Or.inl ⟨by rfl, ?_⟩) (by assumption) ?_
          rotate_left
          · intro w hSw; (try dsimp only at hSw); go_simp; (try with_reducible rfl)
          try simp only [Act.put, List.setIfInBounds_toArray, List.set_cons_zero, List.set_cons_succ]
          refine take_d (i := 22) (d := 67) (v := ?_) rfl rfl (by kernel_rfl) (by kernel_rfl) (by kernel_rfl) (fun _ _ _ h => h) (Or.inl ⟨by rfl, ?_⟩) (by assumption) ?_
          rotate_left
          · intro w hSw; (try dsimp only at hSw); go_simp; (try with_reducible rfl)
          try simp only [Act.put, List.setIfInBounds_toArray, List.set_cons_zero, List.set_cons_succ]
          refine take_d (i := 23) (d := 68) (v := ?_) rfl rfl (by kernel_rfl) (by kernel_rfl) (by kernel_rfl) (fun _ _ _ h => h) (Or.inl ⟨by rfl, ?_⟩) (by assumption) ?_
          rotate_left
          · intro w hSw; (try dsimp only at hSw); go_simp; (try with_reducible rfl)
          try simp only [Act.put, List.setIfInBounds_toArray, List.set_cons_zero, List.set_cons_succ]
          refine take_d (i := 24) (d := 69) (v := ?_) rfl rfl (by kernel_rfl) (by kernel_rfl) (by kernel_rfl) (fun _ _ _ h => h) (Or.inl ⟨by rfl, ?_⟩) (by assumption) ?_
          rotate_left
          · intro w hSw; (try dsimp only at hSw); go_simp; (try with_reducible rfl)
          try simp only [Act.put, List.setIfInBounds_toArray, List.set_cons_zero, List.set_cons_succ]
          refine take_d (i := 26) (d := 71) (v := ?_) rfl rfl (by kernel_rfl) (by kernel_rfl) (by kernel_rfl) (fun _ _ _ h => h) (Or.inl ⟨by rfl, ?_⟩) (by assumption) ?_
          rotate_left
          · intro w hSw; (try dsimp only at hSw); go_simp; (try with_reducible rfl)
          try simp only [Act.put, List.setIfInBounds_toArray, List.set_cons_zero, List.set_cons_succ]
          refine wpAnyH_ready (rs := [25]) (by kernel_rfl) (by simp) ?_
          refine AllReadyH.cons rfl (fun K hK => ?_) AllReadyH.nil
          go_simp
          go_at_call 16
          refine (used_dk G fp1 V1 r1 _ P1.dk).mono ?_
          rintro e w3 ⟨rfl, ht3⟩
          have P3 := P1.keep ht3
          have Oc3 := oc_touch Oc1 ht3 (by simp)
          have a8c := ht3.cell a8 (by simp)
          obtain ⟨p8, p9, p10, p11, p12⟩ := P3.rd.cells
          rw [hs1.done] at p10
          rw [hs1.cap] at p8
          rw [hs1.down] at p12
          (try go_wp2_with fail)
          refine hK.out _ _ ⟨p8, p10, p12, Oc3⟩ (fun _hHeld5 => ?_)
          clear hK K
          try simp only [Act.put, List.setIfInBounds_toArray, List.set_cons_zero, List.set_cons_succ]
          clear p8 p9 p10 p11 p12 hHeld2 _hHeld3 _hHeld4
          refine wpAnyH_ready (rs := [27]) (by kernel_rfl) (by simp) ?_
          refine AllReadyH.cons rfl (fun K hK => ?_) AllReadyH.nil
          go_simp
          go_at_call 24
          refine (rused_rd H fq1 (toR V1) rr1 _ P3.rd hu1).mono ?_
          rintro e w' ⟨rfl, rfl⟩
          rw [rused_toR]
          (try go_wp2_with fail)
          refine hK.out _ _ _hHeld5 (fun _hHeld6 => ?_)
          clear hK K
          try simp only [Act.put, List.setIfInBounds_toArray, List.set_cons_zero, List.set_cons_succ]
          refine take_d (i := 28) (d := 73) (v := ?_) rfl rfl (by kernel_rfl) (by kernel_rfl) (by kernel_rfl) (fun _ _ _ h => h) (Or.inl ⟨by rfl, ?_⟩) (by assumption) ?_
          rotate_left
          · intro w hSw; (try dsimp only at hSw); go_simp; (try with_reducible rfl)
          try simp only [Act.put, List.setIfInBounds_toArray, List.set_cons_zero, List.set_cons_succ]
          refine take_d (i := 29) (d := 74) (v := ?_) rfl rfl (by kernel_rfl) (by kernel_rfl) (by kernel_rfl) (fun _ _ _ h => h) (Or.inl ⟨by rfl, ?_⟩) (by assumption) ?_
          rotate_left
          · intro w hSw; (try dsimp only at hSw); go_simp; (try with_reducible rfl)
          try simp only [Act.put, List.setIfInBounds_toArray, List.set_cons_zero, List.set_cons_succ]
          refine take_d (i := 30) (d := 75) (v := ?_) rfl rfl (by kernel_rfl) (by kernel_rfl) (by kernel_rfl) (fun _ _ _ h => h) (Or.inl ⟨by rfl, ?_⟩) (by assumption) ?_
          rotate_left
          · intro w hSw; (try dsimp only at hSw); go_simp; (try with_reducible rfl)
          try simp only [Act.put, List.setIfInBounds_toArray, List.set_cons_zero, List.set_cons_succ]
          refine take_d (i := 31) (d := 76) (v := ?_) rfl rfl (by kernel_rfl) (by kernel_rfl) (by kernel_rfl) (fun _ _ _ h => h) (Or.inl ⟨by rfl, ?_⟩) (by assumption) ?_
          rotate_left
          · intro w hSw; (try dsimp only at hSw); go_simp; (try with_reducible rfl)
          try simp only [Act.put, List.setIfInBounds_toArray, List.set_cons_zero, List.set_cons_succ]
          refine take_d (i := 33) (d := 78) (v := ?_) rfl rfl (by kernel_rfl) (by kernel_rfl) (by kernel_rfl) (fun _ _ _ h => h) (Or.inl ⟨by rfl, ?_⟩) (by assumption) ?_
          rotate_left
          · intro w hSw; (try dsimp only at hSw); go_simp; (try with_reducible rfl)
          try simp only [Act.put, List.setIfInBounds_toArray, List.set_cons_zero, List.set_cons_succ]
          refine take_d (i := 34) (d := 79) (v := ?_) rfl rfl (by kernel_rfl) (by kernel_rfl) (by kernel_rfl) (fun _ _ _ h => h) (Or.inl ⟨by rfl, ?_⟩) (by assumption) ?_
          rotate_left
          · intro w hSw; (try dsimp only at hSw); go_simp; (try with_reducible rfl)
          try simp only [Act.put, List.setIfInBounds_toArray, List.set_cons_zero, List.set_cons_succ]
          refine take_d (i := 35) (d := 80) (v := ?_) rfl rfl (by kernel_rfl) (by kernel_rfl) (by kernel_rfl) (fun _ _ _ h => h) (Or.inl ⟨by rfl, ?_⟩) (by assumption) ?_
          rotate_left
          · intro w hSw; (try dsimp only at hSw); go_simp; (try with_reducible rfl)
          try simp only [Act.put, List.setIfInBounds_toArray, List.set_cons_zero, List.set_cons_succ]
          refine take_d (i := 36) (d := 81) (v := ?_) rfl rfl (by kernel_rfl) (by kernel_rfl) (by kernel_rfl) (fun _ _ _ h => h) (Or.inl ⟨by rfl, ?_⟩) (by assumption) ?_
          rotate_left
          · intro w hSw; (try dsimp only at hSw); go_simp; (try with_reducible rfl)
          try simp only [Act.put, List.setIfInBounds_toArray, List.set_cons_zero, List.set_cons_succ]
          refine wpAnyH_ready (rs := [32]) (by kernel_rfl) (by simp) ?_
          refine AllReadyH.cons rfl (fun K hK => ?_) AllReadyH.nil
          go_simp
          go_at_call 25
          refine (capacity_any G r1.cap _ a8c).mono ?_
          rintro e w' ⟨rfl, rfl⟩
          (try go_wp2_with fail)
          refine hK.out _ _ _hHeld5 (fun _hHeld7 => ?_)
          clear hK K
          try simp only [Act.put, List.setIfInBounds_toArray, List.set_cons_zero, List.set_cons_succ]
          refine take_d (i := 37) (d := 82) (v := ?_) rfl rfl (by kernel_rfl) (by kernel_rfl) (by kernel_rfl) (fun _ _ _ h => h) (Or.inl ⟨by rfl, ?_⟩) (by assumption) ?_
          rotate_left
          · intro w hSw; (try dsimp only at hSw); go_simp; (try with_reducible rfl)
          try simp only [Act.put, List.setIfInBounds_toArray, List.set_cons_zero, List.set_cons_succ]
          refine take_d (i := 38) (d := 83) (v := ?_) rfl rfl (by kernel_rfl) (by kernel_rfl) (by kernel_rfl) (fun _ _ _ h => h) (Or.inl ⟨by rfl, ?_⟩) (by assumption) ?_
          rotate_left
          · intro w hSw; (try dsimp only at hSw); go_simp; (try with_reducible rfl)
          try simp only [Act.put, List.setIfInBounds_toArray, List.set_cons_zero, List.set_cons_succ]
          refine wpAnyH_done (by kernel_rfl) ?_ _
          all_goals
            have HPf : Hid (PlayAt w G H (k + 1) w3) := Lib.hid (by
              have hz := hTd.size
              have T13 := hTd.trans T1 (fun b hb => .inr (hfr b hb))
              refine ⟨⟨V1, fp1, fq1, r1, rr1, P3, hs1, by omega, fun b hb => ?_⟩, T13.trans0 ht3⟩
              rcases List.mem_append.1 hb with h1 | h1
              · rcases f1 b h1 with h2 | h2
                · exact hfr b h2
                · omega
              · rcases g1 b h1 with h2 | h2
                · exact hfr b h2
                · omega)
            go_wp2_with fail
            go_meet
            exact ⟨rfl, HPf.out⟩
        case rest =>
          obtain ⟨rfl, ⟨⟨V1, fp1, fq1, r1, rr1, P1, hs1, hd1, hfr1⟩, ht1⟩⟩ := hcut
          have hf1 := P1.dk.fok
          have h4 := hf1.len
          have h4R : (toR V1).length = 4 := by rw [toR_len]; exact h4
          obtain ⟨A0, c0', B0, d0, F0⟩ := P1.rd.file 0 (by omega)
          obtain ⟨A1, c1', B1, d1, F1⟩ := P1.rd.file 1 (by omega)
          obtain ⟨A2, c2', B2, d2, F2⟩ := P1.rd.file 2 (by omega)
          obtain ⟨A3, c3', B3, d3, F3⟩ := P1.rd.file 3 (by omega)
          have x0 := F0.cb
          have x1 := F0.cs
          have x2 := F1.cb
          have x3 := F1.cs
          have x4 := F2.cb
          have x5 := F2.cs
          have x6 := F3.cb
          have x7 := F3.cs
          simp only [Nat.zero_mul, Nat.zero_add, Nat.one_mul, Nat.reduceMul, Nat.reduceAdd] at x0 x1 x2 x3 x4 x5 x6 x7
          have o0 := F0.os.rd
          have o1 := F1.os.rd
          have o2 := F2.os.rd
          have o3 := F3.os.rd
          have hfile : ∀ k (hk : k < V1.length) (hk2 : k < (toR V1).length), ((toR V1)[k]).1.length = (V1[k]).1.length ∧ trues ((toR V1)[k]).2 = (V1[k]).2 ∧ ((toR V1)[k]).2.length ≤ 1073741824 := by
            intro k hk hk2
            rw [toR_get V1 k hk hk2]
            refine ⟨rfl, trues_sb _, ?_⟩
            show (sb V1[k]).length ≤ _
            rw [sb_len _ (hf1.safe k hk)]
            exact Nat.le_trans (usedV_le k hk) hf1.used
          have g0 := hfile 0 (by omega) (by omega)
          have g1 := hfile 1 (by omega) (by omega)
          have g2 := hfile 2 (by omega) (by omega)
          have g3 := hfile 3 (by omega) (by omega)
          have Hlen : Hid (0 < V1.length ∧ 1 < V1.length ∧ 2 < V1.length ∧ 3 < V1.length) := Lib.hid ⟨by omega, by omega, by omega, by omega⟩
          rw [g0.1] at x0
          rw [g1.1] at x2
          rw [g2.1] at x4
          rw [g3.1] at x6
          clear F0 F1 F2 F3 hfile
          have Z : Hid (∀ (k : Nat) (hk : k < V1.length) (W : World), Touch [] wc W → (Calls Try.prog 22 #[.pointer (some ⟨G, 0, none⟩), .int .i64 k] W (fun e w' => e = .returned (.int .i64 ((V1[k]).1.length : Nat)) ∧ W = w')) ∧
              Calls Try.prog 15 #[.pointer (some ⟨G, 0, none⟩), .int .i64 k] W (fun e w' => e = .returned (.int .i64 ((V1[k]).2 : Nat)) ∧ W = w')) := Lib.hid (fun k hk W T =>
            ⟨size_dkx G fp1 V1 r1 k hk W (P1.dk.step T (by simp)), safe_dkx G fp1 V1 r1 k hk W (P1.dk.step T (by simp))⟩)
          have HP : Hid (∀ W, Touch [] wc W → PlayAt w G H (k + 1) W) := Lib.hid (fun W T => ⟨⟨V1, fp1, fq1, r1, rr1, P1.keep T, hs1, hd1, hfr1⟩, ht1.trans0 T⟩)
          obtain ⟨n0, e0⟩ : ∃ n0, n0 = (V1[0]'(Hlen.out.1)).1.length := ⟨_, rfl⟩
          obtain ⟨n1, e1⟩ : ∃ n1, n1 = (V1[1]'(Hlen.out.2.1)).1.length := ⟨_, rfl⟩
          obtain ⟨n2, e2⟩ : ∃ n2, n2 = (V1[2]'(Hlen.out.2.2.1)).1.length := ⟨_, rfl⟩
          obtain ⟨n3, e3⟩ : ∃ n3, n3 = (V1[3]'(Hlen.out.2.2.2)).1.length := ⟨_, rfl⟩
          rw [← e0] at x0
          rw [← e1] at x2
          rw [← e2] at x4
          rw [← e3] at x6
          have E0 := Lib.hid e0
          have E1 := Lib.hid e1
          have E2 := Lib.hid e2
          have E3 := Lib.hid e3
          clear e0 e1 e2 e3
          obtain ⟨b0, hb0⟩ : ∃ b0, b0 = ((toR V1)[0]'(by omega)).2 := ⟨_, rfl⟩
          obtain ⟨b1, hb1⟩ : ∃ b1, b1 = ((toR V1)[1]'(by omega)).2 := ⟨_, rfl⟩
          obtain ⟨b2, hb2⟩ : ∃ b2, b2 = ((toR V1)[2]'(by omega)).2 := ⟨_, rfl⟩
          obtain ⟨b3, hb3⟩ : ∃ b3, b3 = ((toR V1)[3]'(by omega)).2 := ⟨_, rfl⟩
          rw [← hb0] at x1 o0 g0
          rw [← hb1] at x3 o1 g1
          rw [← hb2] at x5 o2 g2
          rw [← hb3] at x7 o3 g3
          have G0 := Lib.hid g0.2.1
          have G1 := Lib.hid g1.2.1
          have G2 := Lib.hid g2.2.1
          have G3 := Lib.hid g3.2.1
          have l0 := g0.2.2
          have l1 := g1.2.2
          have l2 := g2.2.2
          have l3 := g3.2.2
          clear hb0 hb1 hb2 hb3 g0 g1 g2 g3 P1 hs1 hd1 hfr1 hf1
          have ix : ∀ (a0 a1 a2 a3 a4 a5 a6 a7 : Value) (W : World), (Instr.index 48 (.agg #[a0, a1, a2, a3, a4, a5, a6, a7]) (.int .i64 0)).run Try.prog W = .ok (.agg #[a0, a1]) W := fun _ _ _ _ _ _ _ _ _ => by kernel_rfl
          have iy : ∀ (a0 a1 a2 a3 a4 a5 a6 a7 : Value) (W : World), (Instr.index 48 (.agg #[a0, a1, a2, a3, a4, a5, a6, a7]) (.int .i64 1)).run Try.prog W = .ok (.agg #[a2, a3]) W := fun _ _ _ _ _ _ _ _ _ => by kernel_rfl
          have iz : ∀ (a0 a1 a2 a3 a4 a5 a6 a7 : Value) (W : World), (Instr.index 48 (.agg #[a0, a1, a2, a3, a4, a5, a6, a7]) (.int .i64 2)).run Try.prog W = .ok (.agg #[a4, a5]) W := fun _ _ _ _ _ _ _ _ _ => by kernel_rfl
          have iu : ∀ (a0 a1 a2 a3 a4 a5 a6 a7 : Value) (W : World), (Instr.index 48 (.agg #[a0, a1, a2, a3, a4, a5, a6, a7]) (.int .i64 3)).run Try.prog W = .ok (.agg #[a6, a7]) W := fun _ _ _ _ _ _ _ _ _ => by kernel_rfl
          go_wp2_with fail
          clear x0 x1 x2 x3 x4 x5 x6 x7
          go_loopw [88] (fun i wx => ∃ j : Nat, j ≤ 4 ∧ i = .int .i64 j ∧ Touch [] wc wx) (fun i _ => 4 - (intOf i).toNat)
          case atStart => exact ⟨0, by omega, rfl, Touch.refl _ _⟩
          case round =>
            obtain ⟨j, hj, rfl, htx⟩ := hrel
            by_cases hlt4 : j < 4
            · rcases lt_four hlt4 with rfl | rfl | rfl | rfl
              · go_wp2_with fail
                have hbn := heap_alloc_new wr (.cells #[.slice A0 n0 c0', .slice B0 b0.length d0] 47)
                have tn := ((Touch.refl [] wr).alloc (.cells #[.slice A0 n0 c0', .slice B0 b0.length d0] 47)).drew
                have Tn := htx.trans0 tn
                have k0 : (wr.alloc (.cells #[.slice A0 n0 c0', .slice B0 b0.length d0] 47)).drew.cell? ⟨wr.heap.size, 0, none⟩ = some (.slice A0 n0 c0') := cell_blk hbn rfl
                have k1 : (wr.alloc (.cells #[.slice A0 n0 c0', .slice B0 b0.length d0] 47)).drew.cell? ⟨wr.heap.size, 1, none⟩ = some (.slice B0 b0.length d0) := cell_blk hbn rfl
                have oz := Rd.touch0 o0 Tn
                have Zs := Lib.hid (Z.out 0 Hlen.out.1 _ Tn)
                go_region_held3 (fun w' => w'.cell? ⟨wr.heap.size, 0, none⟩ = some (.slice A0 n0 c0') ∧ w'.cell? ⟨wr.heap.size, 1, none⟩ = some (.slice B0 b0.length d0)) (first | exact ⟨k0, k1⟩ | exact ⟨m0, m1⟩) (first
                  | (go_at_call 22; refine (Zs.out.1).mono ?_; rintro e w' ⟨rfl, rfl⟩; rw [← E0.out])
                  | (go_at_call 15; refine (Zs.out.2).mono ?_; rintro e w' ⟨rfl, rfl⟩)
                  | (go_at_call 26; refine (rsafe_any (.slice A0 n0 c0') B0 d0 b0.length b0 rfl l0 _ oz).mono ?_; rintro e w5 ⟨rfl, ht5⟩; rw [G0.out]; have m0 := ht5.cell k0 (by simp); have m1 := ht5.cell k1 (by simp)))
                all_goals
                  go_wp2_with fail
                  go_roundw
                  case rel => exact ⟨0 + 1, by omega, by go_num, Tn.trans0 ht5⟩
                  case measure => simp [intOf]
              · go_wp2_with fail
                have hbn := heap_alloc_new wr (.cells #[.slice A1 n1 c1', .slice B1 b1.length d1] 47)
                have tn := ((Touch.refl [] wr).alloc (.cells #[.slice A1 n1 c1', .slice B1 b1.length d1] 47)).drew
                have Tn := htx.trans0 tn
                have k0 : (wr.alloc (.cells #[.slice A1 n1 c1', .slice B1 b1.length d1] 47)).drew.cell? ⟨wr.heap.size, 0, none⟩ = some (.slice A1 n1 c1') := cell_blk hbn rfl
                have k1 : (wr.alloc (.cells #[.slice A1 n1 c1', .slice B1 b1.length d1] 47)).drew.cell? ⟨wr.heap.size, 1, none⟩ = some (.slice B1 b1.length d1) := cell_blk hbn rfl
                have oz := Rd.touch0 o1 Tn
                have Zs := Lib.hid (Z.out 1 Hlen.out.2.1 _ Tn)
                go_region_held3 (fun w' => w'.cell? ⟨wr.heap.size, 0, none⟩ = some (.slice A1 n1 c1') ∧ w'.cell? ⟨wr.heap.size, 1, none⟩ = some (.slice B1 b1.length d1)) (first | exact ⟨k0, k1⟩ | exact ⟨m0, m1⟩) (first
                  | (go_at_call 22; refine (Zs.out.1).mono ?_; rintro e w' ⟨rfl, rfl⟩; rw [← E1.out])
                  | (go_at_call 15; refine (Zs.out.2).mono ?_; rintro e w' ⟨rfl, rfl⟩)
                  | (go_at_call 26; refine (rsafe_any (.slice A1 n1 c1') B1 d1 b1.length b1 rfl l1 _ oz).mono ?_; rintro e w5 ⟨rfl, ht5⟩; rw [G1.out]; have m0 := ht5.cell k0 (by simp); have m1 := ht5.cell k1 (by simp)))
                all_goals
                  go_wp2_with fail
                  go_roundw
                  case rel => exact ⟨1 + 1, by omega, by go_num, Tn.trans0 ht5⟩
                  case measure => simp [intOf]
              · go_wp2_with fail
                have hbn := heap_alloc_new wr (.cells #[.slice A2 n2 c2', .slice B2 b2.length d2] 47)
                have tn := ((Touch.refl [] wr).alloc (.cells #[.slice A2 n2 c2', .slice B2 b2.length d2] 47)).drew
                have Tn := htx.trans0 tn
                have k0 : (wr.alloc (.cells #[.slice A2 n2 c2', .slice B2 b2.length d2] 47)).drew.cell? ⟨wr.heap.size, 0, none⟩ = some (.slice A2 n2 c2') := cell_blk hbn rfl
                have k1 : (wr.alloc (.cells #[.slice A2 n2 c2', .slice B2 b2.length d2] 47)).drew.cell? ⟨wr.heap.size, 1, none⟩ = some (.slice B2 b2.length d2) := cell_blk hbn rfl
                have oz := Rd.touch0 o2 Tn
                have Zs := Lib.hid (Z.out 2 Hlen.out.2.2.1 _ Tn)
                go_region_held3 (fun w' => w'.cell? ⟨wr.heap.size, 0, none⟩ = some (.slice A2 n2 c2') ∧ w'.cell? ⟨wr.heap.size, 1, none⟩ = some (.slice B2 b2.length d2)) (first | exact ⟨k0, k1⟩ | exact ⟨m0, m1⟩) (first
                  | (go_at_call 22; refine (Zs.out.1).mono ?_; rintro e w' ⟨rfl, rfl⟩; rw [← E2.out])
                  | (go_at_call 15; refine (Zs.out.2).mono ?_; rintro e w' ⟨rfl, rfl⟩)
                  | (go_at_call 26; refine (rsafe_any (.slice A2 n2 c2') B2 d2 b2.length b2 rfl l2 _ oz).mono ?_; rintro e w5 ⟨rfl, ht5⟩; rw [G2.out]; have m0 := ht5.cell k0 (by simp); have m1 := ht5.cell k1 (by simp)))
                all_goals
                  go_wp2_with fail
                  go_roundw
                  case rel => exact ⟨2 + 1, by omega, by go_num, Tn.trans0 ht5⟩
                  case measure => simp [intOf]
              · go_wp2_with fail
                have hbn := heap_alloc_new wr (.cells #[.slice A3 n3 c3', .slice B3 b3.length d3] 47)
                have tn := ((Touch.refl [] wr).alloc (.cells #[.slice A3 n3 c3', .slice B3 b3.length d3] 47)).drew
                have Tn := htx.trans0 tn
                have k0 : (wr.alloc (.cells #[.slice A3 n3 c3', .slice B3 b3.length d3] 47)).drew.cell? ⟨wr.heap.size, 0, none⟩ = some (.slice A3 n3 c3') := cell_blk hbn rfl
                have k1 : (wr.alloc (.cells #[.slice A3 n3 c3', .slice B3 b3.length d3] 47)).drew.cell? ⟨wr.heap.size, 1, none⟩ = some (.slice B3 b3.length d3) := cell_blk hbn rfl
                have oz := Rd.touch0 o3 Tn
                have Zs := Lib.hid (Z.out 3 Hlen.out.2.2.2 _ Tn)
                go_region_held3 (fun w' => w'.cell? ⟨wr.heap.size, 0, none⟩ = some (.slice A3 n3 c3') ∧ w'.cell? ⟨wr.heap.size, 1, none⟩ = some (.slice B3 b3.length d3)) (first | exact ⟨k0, k1⟩ | exact ⟨m0, m1⟩) (first
                  | (go_at_call 22; refine (Zs.out.1).mono ?_; rintro e w' ⟨rfl, rfl⟩; rw [← E3.out])
                  | (go_at_call 15; refine (Zs.out.2).mono ?_; rintro e w' ⟨rfl, rfl⟩)
                  | (go_at_call 26; refine (rsafe_any (.slice A3 n3 c3') B3 d3 b3.length b3 rfl l3 _ oz).mono ?_; rintro e w5 ⟨rfl, ht5⟩; rw [G3.out]; have m0 := ht5.cell k0 (by simp); have m1 := ht5.cell k1 (by simp)))
                all_goals
                  go_wp2_with fail
                  go_roundw
                  case rel => exact ⟨3 + 1, by omega, by go_num, Tn.trans0 ht5⟩
                  case measure => simp [intOf]
            · obtain rfl : j = 4 := by omega
              have Hp := Lib.hid (HP.out wr htx)
              go_wp2_with fail
              go_roundw
              case rel => exact ⟨k + 1, by omega, by go_num, Hp.out⟩
              case measure => simp [intOf]; omega
      · obtain rfl : k = l.length := by omega
        go_wp2_with fail
        refine (size_dk G fp V r (-1) wr P.dk).mono ?_
        rintro e w' ⟨rfl, rfl⟩
        rw [if_neg (by omega)]
        go_wp2_with fail
        refine (safe_dk G fp V r 4 wr P.dk).mono ?_
        rintro e w' ⟨rfl, rfl⟩
        rw [if_neg (by omega)]
        go_wp2_with fail
        refine (awake6_any wr).mono ?_
        rintro e w5 ⟨rfl, ht5⟩
        go_wp2_with fail
        go_ret
        exact ⟨rfl, ht.trans0 ht5⟩
  · go_enter Try.func6, Try.ntmps6
    go_wp2_with fail
    refine (new_bad cap w hin).mono ?_
    rintro e w1 ⟨rfl, rfl⟩
    rcases (show cap < 0 ∨ (0 ≤ cap ∧ 1073741824 < cap) by omega) with h0 | ⟨h0, h1⟩
    all_goals
      clear hin
      go_wp2_with (go_at_call 10; refine (awake6_any _).mono ?_; rintro e w3 ⟨rfl, ht3⟩)
      go_ret
      exact ⟨rfl, ht3⟩
end Go.Proofs.Ytgpadejkmpfafaa
