/- bywashref16.Below: the walk. For every list of needs. -/
import Derived.Test.YtmehdlflhllhdaaGrB
namespace Go.Proofs.Ytmehdlflhllhdaa
open Go.RowKit

theorem info_bs : (Try.prog.info? 43).map (fun i => (i.zero, i.size, i.bytes)) = some (some (.slice none 0 0), 1, 24) := by kernel_rfl

/-- what stands at the first loop's head -/
structure TbB (w : World) (n : Nat) (T : Nat → Nat → Bool) (k : Nat) (A : Option Addr) (c : Nat) (bs : List Nat) (wr : World) : Prop where
  tab : TabAt wr A c bs n T
  len : bs.length = k
  t : Touch [] w wr
  f : (∀ b ∈ fpo A, w.heap.size ≤ b) ∧ ∀ b ∈ bs, w.heap.size ≤ b

/-- one more row -/
theorem TbB.more {w : World} {n : Nat} {T : Nat → Nat → Bool} {k : Nat} {A : Option Addr} {c : Nat} {bs : List Nat} {wr w2 w3 : World} (h : TbB w n T k A c bs wr) (R : Nat) (hR : wr.heap.size ≤ R) (t2 : Touch [] wr w2) (hb : w2.heap[R]? = some (.cells (rowB n (T k)) 4 (0, 0)))
    {A3 : Option Addr} {c3 : Nat} (hown : OwnK 43 1 sE w3 A3 c3 ((bs.map fun b => (⟨some ⟨b, 0, none⟩, n, n⟩ : SL)) ++ [⟨some ⟨R, 0, none⟩, n, n⟩])) (t3 : Touch (fpo A) w2 w3) (hf : ∀ b ∈ fpo A3, b ∈ fpo A ∨ b = w2.heap.size) : TbB w n T (k + 1) A3 c3 (bs ++ [R]) w3 := by
  have hlt := h.tab.lt
  have hR2 := lt_blk hb
  have hs := h.t.size
  refine ⟨⟨by rw [List.map_append]; exact hown, fun a ha => ?_, ?_, ?_⟩, by rw [List.length_append, h.len]; rfl, (h.t.trans0 t2).trans t3 (fun b hb => .inr (h.f.1 b hb)), fun b hb => ?_, fun b hb => ?_⟩
  · by_cases e : a < bs.length
    · rw [List.getElem_append_left e]
      exact t3.blk (t2.blk (h.tab.row a e) (by simp)) (h.tab.nA _ (List.getElem_mem e))
    · have ea : a = bs.length := by simp at ha; omega
      subst ea
      rw [List.getElem_append_right (Nat.le_refl _)]
      simp only [Nat.sub_self, List.getElem_cons_zero]
      rw [h.len]
      exact t3.blk hb (fun hm => by have := hlt.1 _ hm; omega)
  · rw [List.nodup_append]
    refine ⟨h.tab.nd, by simp, ?_⟩
    intro a ha b hb e
    simp at hb
    subst hb; subst e
    have := hlt.2 _ ha; omega
  · intro b hb hm
    rcases hf b hm with q | q
    · rcases List.mem_append.1 hb with q2 | q2
      · exact h.tab.nA b q2 q
      · simp at q2; subst q2; have := hlt.1 _ q; omega
    · rcases List.mem_append.1 hb with q2 | q2
      · have := hlt.2 _ q2; have := t2.size; omega
      · simp at q2; omega
  · rcases hf b hb with q | q
    · exact h.f.1 b q
    · have := t2.size; omega
  · rcases List.mem_append.1 hb with q2 | q2
    · exact h.f.2 b q2
    · simp at q2; omega

set_option maxRecDepth 20000 in
set_option maxHeartbeats 4000000 in
theorem refBelow_any (n : Nat) (hn : n ≤ 2000) (A : Option Addr) (c m : Nat) (ls : List (List Int)) (hm : ls.length = m) (hl : m ≤ 2000000000) (w : World) (h : InR w A ls) (hb : ∀ l ∈ ls, l.length ≤ 2000000000) :
    Calls Try.prog 22 #[.int .i64 n, .slice A m c] w fun e w' => ∃ B d bs, e = .returned (.slice B n d) ∧ TbB w n (tabP (tE ls) n) n B d bs w' := by
  subst hm
  go_enter Try.func22, Try.ntmps22
  go_wp2
  go_loopw [5, 6] (fun t i wr => ∃ (k : Nat) (B : Option Addr) (d : Nat) (bs : List Nat), k ≤ n ∧ i = .int .i64 k ∧ t = .slice B k d ∧ TbB w n (tE ls) k B d bs wr) (fun _ i _ => n - (intOf i).toNat)
  case atStart => exact ⟨0, none, 0, [], by omega, rfl, rfl, TabAt.nil _ _ _, rfl, Touch.refl _ _, by simp [fpo], by simp⟩
  case round =>
    obtain ⟨k, B, d, bs, hk, rfl, rfl, hT⟩ := hrel
    by_cases hlt : k < n
    · have HT := Lib.hid hT
      clear hT
      obtain ⟨W1, e1⟩ : ∃ W1, W1 = wr := ⟨_, rfl⟩
      subst e1
      have hmk := fun w => run_mkB n (by omega) w
      go_wp2_with fail
      clear hmk
      go_loopw [8] (fun j wr2 => ∃ (q : Nat), q ≤ n ∧ j = .int .i64 q ∧ Touch [] W1 wr2 ∧ wr2.heap[W1.heap.size]? = some (.cells (rowB n (fun b => if b < q then tE ls k b else false)) 4 (0, 0))) (fun j _ => n - (intOf j).toNat)
      case atStart => exact ⟨0, by omega, rfl, (Touch.refl [] W1).alloc _, by
        rw [heap_alloc_new, rowB_made]
        rw [rowB_congr (f := fun _ => false) (g := fun b => if b < 0 then tE ls k b else false) (fun b _ => by simp)]⟩
      case round =>
        obtain ⟨q, hq, rfl, t2, hR⟩ := hrel
        have HR := Lib.hid hR
        have T2 := Lib.hid t2
        by_cases hlq : q < n
        · have cq := cell_blk hR (rowB_get n _ q hlq)
          have fq := frozen_blk hR q
          have Hset : ∀ v, v = tE ls k q → Hid ((wr.setCell ⟨W1.heap.size, q, none⟩ (.bool v)).heap[W1.heap.size]? = some (.cells (rowB n (fun b => if b < q + 1 then tE ls k b else false)) 4 (0, 0))) := fun v hv => Lib.hid (by
            rw [set_blk HR.out, rowB_set]
            congr 2
            refine rowB_congr fun b _ => ?_
            by_cases e : b = q
            · subst e; simp [hv]
            · have e2 : (b < q) = (b < q + 1) := by simp; omega
              simp [e, e2])
          clear hR t2
          by_cases hkl : k < ls.length
          · obtain ⟨ad, A', c', rfl, hc, _, hrd⟩ := (h.touch0 (HT.out.t.trans0 T2.out)).at_ k hkl
            have hcall := refHas_any A' c' ls[k].length ls[k] rfl (hb _ (List.getElem_mem hkl)) (q : Int) wr hrd
            have Hv := Lib.hid (tE_lt ls k hkl q)
            obtain ⟨v, hv⟩ : ∃ v, v = hasL ls[k] (q : Int) := ⟨_, rfl⟩
            rw [← hv] at hcall Hv
            obtain ⟨L, hL⟩ : ∃ L, L = ls[k].length := ⟨_, rfl⟩
            rw [← hL] at hcall hc
            clear hL hv hrd
            have Hs := Hset v Hv.out.symm
            clear Hset
            go_wp2_with fail
            refine hcall.mono ?_
            rintro e w3 ⟨rfl, rfl⟩
            clear hcall
            go_wp2
            go_roundw
            case rel => exact ⟨q + 1, by omega, by go_num, T2.out.setCell (.inr (Nat.le_refl _)) _, Hs.out⟩
            case measure => simp [intOf]; omega
          · have hkl' : ((k : Int) < (ls.length : Int)) = False := by simp; omega
            have Hs := Hset false (tE_ge ls k (by omega) q).symm
            clear Hset
            go_wp2
            go_roundw
            case rel => exact ⟨q + 1, by omega, by go_num, T2.out.setCell (.inr (Nat.le_refl _)) _, Hs.out⟩
            case measure => simp [intOf]; omega
        · obtain rfl : q = n := by omega
          have HR2 : Hid (wr.heap[W1.heap.size]? = some (.cells (rowB q (tE ls k)) 4 (0, 0))) := Lib.hid (by
            rw [HR.out, rowB_congr fun b hb => if_pos hb])
          clear hR t2 HR
          have Hlen := Lib.hid (show (bs.map fun b => (⟨some ⟨b, 0, none⟩, q, q⟩ : SL)).length = k by rw [List.length_map]; exact HT.out.len)
          go_wp2_with (at_builtin; refine stop ?_)
          refine go ?_
          have tb := (Touch.refl [] wr).alloc (.cells #[.slice (some ⟨W1.heap.size, 0, none⟩) q q] 43)
          refine wpList_appK (enc := sE) rfl (.tmp 39) (.tmp 41) 41 rfl 43 (.slice none 0 0) 1 24 info_bs Try.underlying41 rfl (by omega) (fun _ => rfl) (fun x u hu => by simp only [List.mem_singleton] at hu; subst hu; rfl) B k d _ Hlen.out rfl ((HT.out.tab.own.touch0 T2.out).touch0 tb)
            (some ⟨wr.heap.size, 0, none⟩) 1 1 [⟨some ⟨W1.heap.size, 0, none⟩, q, q⟩] rfl rfl (RdK.one (enc := sE) wr 43 ⟨some ⟨W1.heap.size, 0, none⟩, q, q⟩ _ rfl) (by omega) (by omega) ?_
          intro A3 c3 w3 hown3 ht3 hf3
          have Hn := Lib.hid (HT.out.more W1.heap.size (Nat.le_refl _) (T2.out.trans0 tb) (tb.blk HR2.out (by simp)) hown3 ht3 hf3)
          clear hown3 ht3 hf3
          go_wp2_with fail
          go_roundw
          case rel => exact ⟨k + 1, A3, c3, _, by omega, by go_num, rfl, Hn.out⟩
          case measure => simp [intOf]; omega
    · obtain rfl : k = n := by omega
      have hlen := hT.len
      have HT : Hid (TbB w k (tabP (tE ls) 0) k B d bs wr) := Lib.hid hT
      clear hT
      go_wp2_with fail
      go_loopw [9] (fun m wr2 => ∃ (q : Nat), q ≤ k ∧ m = .int .i64 q ∧ TbB w k (tabP (tE ls) q) k B d bs wr2) (fun m _ => k - (intOf m).toNat)
      case atStart => exact ⟨0, by omega, rfl, HT.out⟩
      case round =>
        clear HT
        obtain ⟨q, hq, rfl, hT⟩ := hrel
        have HT := Lib.hid hT
        clear hT
        by_cases hlq : q < k
        · go_wp2_with fail
          go_loopw [10] (fun i wr3 => ∃ (a : Nat), a ≤ k ∧ i = .int .i64 a ∧ TbB w k (tabW (tE ls) q a 0) k B d bs wr3) (fun i _ => k - (intOf i).toNat)
          case atStart => exact ⟨0, by omega, rfl, ⟨HT.out.tab.congr (by omega) (fun a b _ _ => tabW_zero _ _ _ _), HT.out.len, HT.out.t, HT.out.f⟩⟩
          case round =>
            clear HT
            obtain ⟨a, ha, rfl, hT⟩ := hrel
            have HT := Lib.hid hT
            clear hT
            by_cases hla : a < k
            · go_wp2_with fail
              go_loopw [11] (fun j wr4 => ∃ (x : Nat), x ≤ k ∧ j = .int .i64 x ∧ TbB w k (tabW (tE ls) q a x) k B d bs wr4) (fun j _ => k - (intOf j).toNat)
              case atStart => exact ⟨0, by omega, rfl, HT.out⟩
              case round =>
                clear HT
                obtain ⟨x, hx, rfl, hT⟩ := hrel
                by_cases hlx : x < k
                · obtain ⟨G, rfl, ca, ra⟩ := hT.tab.at_ a (by omega)
                  obtain ⟨G', e, cq, rq⟩ := hT.tab.at_ q (by omega)
                  obtain rfl : G = G' := by injection e with e; injection e
                  clear e
                  have c1 := ra q hlq
                  have c2 := rq x hlx
                  have c3 := ra x hlx
                  have fx := frozen_blk (hT.tab.row a (by omega)) x
                  rw [tabW_col] at c1
                  rw [tabW_mid] at c2
                  have hset := hT.tab.set a (by omega) x true
                  have HT := Lib.hid hT
                  clear hT ra rq
                  have Hs := Lib.hid hset
                  clear hset
                  obtain ⟨ba, hba⟩ : ∃ ba, ba = bs[a]'(by omega) := ⟨_, rfl⟩
                  obtain ⟨bq, hbq⟩ : ∃ bq, bq = bs[q]'(by omega) := ⟨_, rfl⟩
                  rw [← hba] at ca c1 c3 fx Hs
                  rw [← hbq] at cq c2
                  have Hba := Lib.hid hba
                  clear hba hbq
                  have Hst := Lib.hid fun (v : Bool) (hv : v = tabP (tE ls) (q + 1) a x) (y z : Nat) => tabW_step (tE ls) q a x y z
                  rcases h1 : tabP (tE ls) q a q with _ | _
                  · rw [h1] at c1
                    have Hc : Hid (∀ y z, y < k → z < k → tabW (tE ls) q a x y z = tabW (tE ls) q a (x + 1) y z) := Lib.hid fun y z _ _ => by
                      rw [tabW_step]
                      split
                      · rename_i e; rw [e.1, e.2]; unfold tabW; rw [if_neg (by omega)]; simp [tabP, h1]
                      · rfl
                    clear h1
                    go_wp2
                    go_roundw
                    case rel => exact ⟨x + 1, by omega, by go_num, ⟨HT.out.tab.congr (by omega) Hc.out, HT.out.len, HT.out.t, HT.out.f⟩⟩
                    case measure => simp [intOf]; omega
                  · rw [h1] at c1
                    rcases h2 : tabP (tE ls) q q x with _ | _
                    · rw [h2] at c2
                      have Hc : Hid (∀ y z, y < k → z < k → tabW (tE ls) q a x y z = tabW (tE ls) q a (x + 1) y z) := Lib.hid fun y z _ _ => by
                        rw [tabW_step]
                        split
                        · rename_i e; rw [e.1, e.2]; unfold tabW; rw [if_neg (by omega)]; simp [tabP, h2]
                        · rfl
                      clear h1 h2
                      go_wp2
                      go_roundw
                      case rel => exact ⟨x + 1, by omega, by go_num, ⟨HT.out.tab.congr (by omega) Hc.out, HT.out.len, HT.out.t, HT.out.f⟩⟩
                      case measure => simp [intOf]; omega
                    · rw [h2] at c2
                      have Hc : Hid (∀ y z, y < k → z < k → (if y = a ∧ z = x then true else tabW (tE ls) q a x y z) = tabW (tE ls) q a (x + 1) y z) := Lib.hid fun y z _ _ => by
                        rw [tabW_step]
                        split
                        · simp [tabP, h1, h2]
                        · rfl
                      clear h1 h2
                      go_wp2
                      go_roundw
                      case rel =>
                        have hlt : w.heap.size ≤ ba := by rw [Hba.out]; exact HT.out.f.2 _ (List.getElem_mem _)
                        exact ⟨x + 1, by omega, by go_num, ⟨Hs.out.congr (by omega) Hc.out, HT.out.len, HT.out.t.setCell (.inr hlt) _, HT.out.f⟩⟩
                      case measure => simp [intOf]; omega
                · obtain rfl : x = k := by omega
                  have HT := Lib.hid hT
                  clear hT
                  go_wp2
                  go_roundw
                  case rel => exact ⟨a + 1, by omega, by go_num, ⟨HT.out.tab.congr (by omega) (fun y z _ hz => tabW_row _ _ _ _ _ _ hz), HT.out.len, HT.out.t, HT.out.f⟩⟩
                  case measure => simp [intOf]; omega
            · obtain rfl : a = k := by omega
              go_wp2
              go_roundw
              case rel => exact ⟨q + 1, by omega, by go_num, ⟨HT.out.tab.congr (by omega) (fun y z hy _ => tabW_end _ _ _ _ _ hy), HT.out.len, HT.out.t, HT.out.f⟩⟩
              case measure => simp [intOf]; omega
        · obtain rfl : q = k := by omega
          go_wp2
          go_ret
          exact ⟨B, d, bs, rfl, HT.out⟩
end Go.Proofs.Ytmehdlflhllhdaa
