/- Part 7 of the texts of this proof, one behind the other; each begins with its own sentence. No condition beyond those that its theorems state. -/
import Derived.Test.YtlkckkagoommaaaCo6
import Derived.Deep.DeepCutAuto
/- bywashref04.Form: is an expression's form right, as the document's answer has it? For every expression. -/
namespace Go.Proofs.Ytlkckkagoommaaa
open Go.RowKit

theorem beq_S2 (x : ByteArray) (l : List UInt8) : (x.toList == l) = decide (x = S l) := by
  have h := bs_beq x (S l)
  rwa [S_list] at h
theorem natq (m j : Nat) : ((m : Int) == (j : Int)) = decide (m = j) := by rw [Bool.eq_iff_iff]; simp; omega
def nNEG : List ByteArray := [S [45], S [110, 111, 116]]
def nBIN : List ByteArray := [S [43], S [45], S [42], S [47], S [37], S [61], S [33, 61], S [60], S [60, 61], S [62], S [62, 61], S [97, 110, 100], S [111, 114]]
def nC1 : List ByteArray := [S [108, 101, 110], S [97, 98, 115], S [105, 115, 110, 117, 108, 108]]
def nC2 : List ByteArray := [S [99, 97, 116], S [101, 105, 116, 104, 101, 114]]
/-- is the form right, with so many Args, as the document's answer has it? -/
def formR (d : ND) (n : Nat) : Bool :=
  if d.kind = 1 then isNull d.v && (decide (d.op = S []) && decide (n = 0))
  else if d.kind = 2 then decide (d.name = S []) && (decide (d.op = S []) && (decide (n = 0) && d.v.right))
  else if isNull d.v = false then false
  else if d.kind = 3 then decide (d.name = S []) && (decide (n = 1) && inL d.op nNEG)
  else if d.kind = 4 then decide (d.name = S []) && (decide (n = 2) && inL d.op nBIN)
  else if d.kind = 5 then decide (d.op = S []) && ((decide (n = 1) && inL d.name nC1) || ((decide (n = 2) && inL d.name nC2) || (decide (n = 3) && decide (d.name = S [105, 102]))))
  else false

set_option maxRecDepth 100000 in
set_option maxHeartbeats 6400000 in
theorem refForm_any (x : XC) (hv : x.nd.v.text.size ≤ 140737000000000) (w : World) :
    Calls Try.prog 58 #[x.valR] w fun e w' => e = .returned (.bool (formR x.nd x.n)) ∧ Touch [] w w' := by
  obtain ⟨⟨k, nm, ⟨vk, vn, vt⟩, op⟩, A, m, c⟩ := x
  dsimp only at hv
  dsimp only [XC.valR]
  have Hright := Lib.hid fun w' => refRight_any ⟨vk, vn, vt⟩ hv w'
  simp only [VD.val] at Hright
  have hop := isEmpty_S op
  have hnm := isEmpty_S nm
  have hvt := isEmpty_S vt
  have hif := beq_S2 nm [105, 102]
  have hm0 : ((m : Int) == 0) = decide (m = 0) := natq m 0
  have hm1 : ((m : Int) == 1) = decide (m = 1) := natq m 1
  have hm2 : ((m : Int) == 2) = decide (m = 2) := natq m 2
  have hm3 : ((m : Int) == 3) = decide (m = 3) := natq m 3
  obtain ⟨W, hW⟩ : ∃ W, W = w.alloc (.cells #[.int .i64 k, .string nm, .string op, .int .i64 vk, .int .i64 vn, .string vt, .slice A m c] 61) := ⟨_, rfl⟩
  have tb := (Touch.refl [] w).alloc (.cells #[.int .i64 k, .string nm, .string op, .int .i64 vk, .int .i64 vn, .string vt, .slice A m c] 61)
  have hb := heap_alloc_new w (.cells #[.int .i64 k, .string nm, .string op, .int .i64 vk, .int .i64 vn, .string vt, .slice A m c] 61)
  rw [← hW] at tb hb
  obtain ⟨c0, c1, c2, c3, c4, c5, c6, _⟩ := blk7 hb
  have HW := Lib.hid hW
  obtain ⟨nl, hnl⟩ : ∃ nl, nl = isNull ⟨vk, vn, vt⟩ := ⟨_, rfl⟩
  have Hnl := Lib.hid hnl
  have Hf := Lib.hid (show ∀ b, formR ⟨k, nm, ⟨vk, vn, vt⟩, op⟩ m = b → Ending.returned (.bool b) = Ending.returned (.bool (formR ⟨k, nm, ⟨vk, vn, vt⟩, op⟩ m)) from fun b h => by rw [h])
  clear hnl hb hW
  go_enter Try.func58, Try.ntmps58
  go_upto_region 1 with (fail)
  go_cut [3] (fun z wx => z = .bool nl ∧ wx = W)
  case first =>
    by_cases e1 : vk = 0
    · have q1 : (vk == 0) = true := by simpa using e1
      have E1 := Lib.hid e1
      clear e1
      by_cases e2 : vn = 0
      · have q2 : (vn == 0) = true := by simpa using e2
        have E2 := Lib.hid e2
        clear e2
        rcases e3 : decide (vt = S []) with _ | _
        · rw [e3] at hvt
          go_wp2
          go_meet
          exact ⟨by rw [Hnl.out]; simp only [isNull, e3, Bool.and_false], HW.out.symm⟩
        · rw [e3] at hvt
          go_wp2
          go_meet
          exact ⟨by rw [Hnl.out]; simp only [isNull, e3, E1.out, E2.out, decide_true, Bool.and_true], HW.out.symm⟩
      · have q2 : (vn == 0) = false := by simpa using e2
        go_wp2
        go_meet
        exact ⟨by rw [Hnl.out]; simp only [isNull, decide_eq_false e2, Bool.false_and, Bool.and_false], HW.out.symm⟩
    · have q1 : (vk == 0) = false := by simpa using e1
      go_wp2
      go_meet
      exact ⟨by rw [Hnl.out]; simp only [isNull, decide_eq_false e1, Bool.false_and], HW.out.symm⟩
  case rest =>
    obtain ⟨rfl, rfl⟩ := hcut
    clear hvt HW
    by_cases h1 : k = 1
    · have q1 : (k == 1) = true := by simpa using h1
      rcases nl with _ | _
      · go_wp2
        go_ret
        exact ⟨Hf.out false (by unfold formR; rw [if_pos h1, ← Hnl.out, Bool.false_and]), tb⟩
      · rcases ho : decide (op = S []) with _ | _
        · rw [ho] at hop
          go_wp2
          go_ret
          exact ⟨Hf.out false (by unfold formR; rw [if_pos h1, ho, Bool.false_and, Bool.and_false]), tb⟩
        · rw [ho] at hop
          rcases hz : decide (m = 0) with _ | _
          · rw [hz] at hm0
            go_wp2
            go_ret
            exact ⟨Hf.out false (by unfold formR; rw [if_pos h1, ho, hz, ← Hnl.out]; rfl), tb⟩
          · rw [hz] at hm0
            go_wp2
            go_ret
            exact ⟨Hf.out true (by unfold formR; rw [if_pos h1, ho, hz, ← Hnl.out]; rfl), tb⟩
    have q1 : (k == 1) = false := by simpa using h1
    by_cases h2 : k = 2
    · have q2 : (k == 2) = true := by simpa using h2
      rcases hn : decide (nm = S []) with _ | _
      · rw [hn] at hnm
        go_wp2
        go_ret
        exact ⟨Hf.out false (by unfold formR; rw [if_neg h1, if_pos h2, hn, Bool.false_and]), tb⟩
      · rw [hn] at hnm
        rcases ho : decide (op = S []) with _ | _
        · rw [ho] at hop
          go_wp2
          go_ret
          exact ⟨Hf.out false (by unfold formR; rw [if_neg h1, if_pos h2, ho, Bool.false_and, Bool.and_false]), tb⟩
        · rw [ho] at hop
          rcases hz : decide (m = 0) with _ | _
          · rw [hz] at hm0
            go_wp2
            go_ret
            exact ⟨Hf.out false (by unfold formR; rw [if_neg h1, if_pos h2, hz, Bool.false_and, Bool.and_false, Bool.and_false]), tb⟩
          · rw [hz] at hm0
            go_wp2_with fail
            refine (Hright.out _).mono ?_
            rintro e w1 ⟨rfl, t1⟩
            go_wp2_with fail
            go_ret
            exact ⟨Hf.out _ (by unfold formR; rw [if_neg h1, if_pos h2, hn, ho, hz]; rfl), tb.trans0 t1⟩
    have q2 : (k == 2) = false := by simpa using h2
    rcases nl with _ | _
    · go_wp2
      go_ret
      exact ⟨Hf.out false (by unfold formR; rw [if_neg h1, if_neg h2, if_pos Hnl.out.symm]), tb⟩
    have hN : ¬ isNull ⟨vk, vn, vt⟩ = false := by rw [← Hnl.out]; simp
    clear Hright Hnl
    by_cases h3 : k = 3
    · have q3 : (k == 3) = true := by simpa using h3
      rcases hn : decide (nm = S []) with _ | _
      · rw [hn] at hnm
        go_wp2
        go_ret
        exact ⟨Hf.out false (by unfold formR; rw [if_neg h1, if_neg h2, if_neg hN, if_pos h3, hn, Bool.false_and]), tb⟩
      · rw [hn] at hnm
        rcases hz : decide (m = 1) with _ | _
        · rw [hz] at hm1
          go_wp2
          go_ret
          exact ⟨Hf.out false (by unfold formR; rw [if_neg h1, if_neg h2, if_neg hN, if_pos h3, hz, Bool.false_and, Bool.and_false]), tb⟩
        · rw [hz] at hm1
          go_wp2_with fail
          refine (in4_any op _ _ _ nNEG rfl _ (RdK.row (enc := tsE) _ _ nNEG _ rfl) (by decide)).mono ?_
          rintro e w1 ⟨rfl, rfl⟩
          go_wp2_with fail
          go_ret
          exact ⟨Hf.out _ (by unfold formR; rw [if_neg h1, if_neg h2, if_neg hN, if_pos h3, hn, hz]; rfl), tb.alloc _⟩
    have q3 : (k == 3) = false := by simpa using h3
    by_cases h4 : k = 4
    · have q4 : (k == 4) = true := by simpa using h4
      rcases hn : decide (nm = S []) with _ | _
      · rw [hn] at hnm
        go_wp2
        go_ret
        exact ⟨Hf.out false (by unfold formR; rw [if_neg h1, if_neg h2, if_neg hN, if_neg h3, if_pos h4, hn, Bool.false_and]), tb⟩
      · rw [hn] at hnm
        rcases hz : decide (m = 2) with _ | _
        · rw [hz] at hm2
          go_wp2
          go_ret
          exact ⟨Hf.out false (by unfold formR; rw [if_neg h1, if_neg h2, if_neg hN, if_neg h3, if_pos h4, hz, Bool.false_and, Bool.and_false]), tb⟩
        · rw [hz] at hm2
          go_wp2_with fail
          refine (in4_any op _ _ _ nBIN rfl _ (RdK.row (enc := tsE) _ _ nBIN _ rfl) (by decide)).mono ?_
          rintro e w1 ⟨rfl, rfl⟩
          go_wp2_with fail
          go_ret
          exact ⟨Hf.out _ (by unfold formR; rw [if_neg h1, if_neg h2, if_neg hN, if_neg h3, if_pos h4, hn, hz]; rfl), tb.alloc _⟩
    have q4 : (k == 4) = false := by simpa using h4
    by_cases h5 : k = 5
    · have q5 : (k == 5) = true := by simpa using h5
      rcases ho : decide (op = S []) with _ | _
      · rw [ho] at hop
        go_wp2
        go_ret
        exact ⟨Hf.out false (by unfold formR; rw [if_neg h1, if_neg h2, if_neg hN, if_neg h3, if_neg h4, if_pos h5, ho, Bool.false_and]), tb⟩
      · rw [ho] at hop
        by_cases hz : m = 1
        · subst hz
          clear hm0 hm1 hm2 hm3
          go_wp2_with fail
          refine (in4_any nm _ _ _ nC1 rfl _ (RdK.row (enc := tsE) _ _ nC1 _ rfl) (by decide)).mono ?_
          rintro e w1 ⟨rfl, rfl⟩
          rcases hi : inL nm nC1 with _ | _
          · go_wp2_with fail
            go_ret
            exact ⟨Hf.out _ (by unfold formR; simp only; rw [if_neg h1, if_neg h2, if_neg hN, if_neg h3, if_neg h4, if_pos h5, ho, hi]; rfl), tb.alloc _⟩
          · go_wp2_with fail
            go_ret
            exact ⟨Hf.out _ (by unfold formR; simp only; rw [if_neg h1, if_neg h2, if_neg hN, if_neg h3, if_neg h4, if_pos h5, ho, hi]; rfl), tb.alloc _⟩
        rw [decide_eq_false hz] at hm1
        by_cases hz2 : m = 2
        · subst hz2
          clear hm0 hm1 hm2 hm3 hz
          go_wp2_with fail
          refine (in4_any nm _ _ _ nC2 rfl _ (RdK.row (enc := tsE) _ _ nC2 _ rfl) (by decide)).mono ?_
          rintro e w1 ⟨rfl, rfl⟩
          rcases hi : inL nm nC2 with _ | _
          · go_wp2_with fail
            go_ret
            exact ⟨Hf.out _ (by unfold formR; simp only; rw [if_neg h1, if_neg h2, if_neg hN, if_neg h3, if_neg h4, if_pos h5, ho, hi]; rfl), tb.alloc _⟩
          · go_wp2_with fail
            go_ret
            exact ⟨Hf.out _ (by unfold formR; simp only; rw [if_neg h1, if_neg h2, if_neg hN, if_neg h3, if_neg h4, if_pos h5, ho, hi]; rfl), tb.alloc _⟩
        rw [decide_eq_false hz2] at hm2
        by_cases hz3 : m = 3
        · subst hz3
          clear hm0 hm1 hm2 hm3 hz hz2
          rcases hi : decide (nm = S [105, 102]) with _ | _
          · rw [hi] at hif
            go_wp2
            go_ret
            exact ⟨Hf.out false (by unfold formR; simp only; rw [if_neg h1, if_neg h2, if_neg hN, if_neg h3, if_neg h4, if_pos h5, ho, hi]; rfl), tb⟩
          · rw [hi] at hif
            go_wp2
            go_ret
            exact ⟨Hf.out true (by unfold formR; simp only; rw [if_neg h1, if_neg h2, if_neg hN, if_neg h3, if_neg h4, if_pos h5, ho, hi]; rfl), tb⟩
        rw [decide_eq_false hz3] at hm3
        go_wp2
        go_ret
        exact ⟨Hf.out false (by unfold formR; rw [if_neg h1, if_neg h2, if_neg hN, if_neg h3, if_neg h4, if_pos h5, decide_eq_false hz, decide_eq_false hz2, decide_eq_false hz3, Bool.false_and, Bool.false_and, Bool.false_and, Bool.or_false, Bool.or_false, Bool.and_false]), tb⟩
    have q5 : (k == 5) = false := by simpa using h5
    go_wp2
    go_ret
    exact ⟨Hf.out false (by unfold formR; rw [if_neg h1, if_neg h2, if_neg hN, if_neg h3, if_neg h4, if_neg h5]), tb⟩
end Go.Proofs.Ytlkckkagoommaaa

/- The document's form and type of an expression are the program's. No walk. -/
namespace Go.Proofs.Ytlkckkagoommaaa
open Go.RowKit

theorem inL_iff (s : ByteArray) (l : List ByteArray) : inL s l = true ↔ s ∈ l := by
  unfold inL
  rw [List.any_eq_true]
  constructor
  · rintro ⟨x, hx, e⟩
    rwa [← of_decide_eq_true e]
  · intro h
    exact ⟨s, h, decide_eq_true rfl⟩
theorem formV_at {d : ND} {r : RU} {n : Nat} (h1 : d.kind ≠ 1) (h2 : d.kind ≠ 2) (hr : ruleV d = some r) (hl : n = r.args.length) (hz : isNull d.v = true) (hx : (if d.kind = 5 then decide (d.op = S []) else decide (d.name = S [])) = true) : formV d n = true := by
  unfold formV
  rw [if_neg h1, if_neg h2, hr, hz, hx]
  simp [hl]
theorem formV_null {d : ND} {n : Nat} (h : formV d n = true) (h1 : d.kind ≠ 1) (h2 : d.kind ≠ 2) : isNull d.v = true := by
  unfold formV at h
  rw [if_neg h1, if_neg h2, Bool.and_eq_true, Bool.and_eq_true] at h
  exact h.2.1
theorem formR_eq (d : ND) (n : Nat) : formR d n = formV d n := by
  obtain ⟨k, nm, v, op⟩ := d
  by_cases h1 : k = 1
  · unfold formR formV
    rw [if_pos h1, if_pos h1]
    cases isNull v <;> cases decide (op = S []) <;> cases decide (n = 0) <;> rfl
  by_cases h2 : k = 2
  · unfold formR formV
    rw [if_neg h1, if_pos h2, if_neg h1, if_pos h2]
  rw [Bool.eq_iff_iff]
  constructor
  · intro h
    unfold formR at h
    rw [if_neg h1, if_neg h2] at h
    split at h
    · cases h
    rename_i hz0
    have hz : isNull v = true := by simpa using hz0
    clear hz0
    split at h
    · rename_i hk
      have hk : k = 3 := hk
      subst hk
      simp only [Bool.and_eq_true, decide_eq_true_eq] at h
      obtain ⟨rfl, rfl, hc⟩ := h
      rw [inL_iff] at hc
      simp only [nNEG, List.mem_cons, List.not_mem_nil, or_false] at hc
      rcases hc with rfl | rfl
      · exact formV_at h1 h2 (r := ⟨S [45], [1], 1⟩) (by kernel_rfl) rfl hz rfl
      · exact formV_at h1 h2 (r := ⟨S [110, 111, 116], [0], 1⟩) (by kernel_rfl) rfl hz rfl
    split at h
    · rename_i hk
      have hk : k = 4 := hk
      subst hk
      simp only [Bool.and_eq_true, decide_eq_true_eq] at h
      obtain ⟨rfl, rfl, hc⟩ := h
      rw [inL_iff] at hc
      have hr : ∃ r, ruleV ⟨4, S [], v, op⟩ = some r ∧ 2 = r.args.length := by
        simp only [nBIN, List.mem_cons, List.not_mem_nil, or_false] at hc
        rcases hc with rfl | rfl | rfl | rfl | rfl | rfl | rfl | rfl | rfl | rfl | rfl | rfl | rfl
        · exact ⟨⟨S [43], [1, 1], 1⟩, by kernel_rfl, rfl⟩
        · exact ⟨⟨S [45], [1, 1], 1⟩, by kernel_rfl, rfl⟩
        · exact ⟨⟨S [42], [1, 1], 1⟩, by kernel_rfl, rfl⟩
        · exact ⟨⟨S [47], [1, 1], 1⟩, by kernel_rfl, rfl⟩
        · exact ⟨⟨S [37], [1, 1], 1⟩, by kernel_rfl, rfl⟩
        · exact ⟨⟨S [61], [-1, -1], 1⟩, by kernel_rfl, rfl⟩
        · exact ⟨⟨S [33, 61], [-1, -1], 1⟩, by kernel_rfl, rfl⟩
        · exact ⟨⟨S [60], [-1, -1], 1⟩, by kernel_rfl, rfl⟩
        · exact ⟨⟨S [60, 61], [-1, -1], 1⟩, by kernel_rfl, rfl⟩
        · exact ⟨⟨S [62], [-1, -1], 1⟩, by kernel_rfl, rfl⟩
        · exact ⟨⟨S [62, 61], [-1, -1], 1⟩, by kernel_rfl, rfl⟩
        · exact ⟨⟨S [97, 110, 100], [0, 0], 1⟩, by kernel_rfl, rfl⟩
        · exact ⟨⟨S [111, 114], [0, 0], 1⟩, by kernel_rfl, rfl⟩
      obtain ⟨r, hr, hl⟩ := hr
      exact formV_at h1 h2 hr hl hz rfl
    split at h
    · rename_i hk
      have hk : k = 5 := hk
      subst hk
      simp only [Bool.and_eq_true, Bool.or_eq_true, decide_eq_true_eq, inL_iff] at h
      obtain ⟨rfl, h⟩ := h
      have hr : ∃ r, ruleV ⟨5, nm, v, S []⟩ = some r ∧ n = r.args.length := by
        rcases h with ⟨rfl, hc⟩ | ⟨rfl, hc⟩ | ⟨rfl, rfl⟩
        · simp only [nC1, List.mem_cons, List.not_mem_nil, or_false] at hc
          rcases hc with rfl | rfl | rfl
          · exact ⟨⟨S [108, 101, 110], [2], 1⟩, by kernel_rfl, rfl⟩
          · exact ⟨⟨S [97, 98, 115], [1], 1⟩, by kernel_rfl, rfl⟩
          · exact ⟨⟨S [105, 115, 110, 117, 108, 108], [0], 1⟩, by kernel_rfl, rfl⟩
        · simp only [nC2, List.mem_cons, List.not_mem_nil, or_false] at hc
          rcases hc with rfl | rfl
          · exact ⟨⟨S [99, 97, 116], [2, 2], 2⟩, by kernel_rfl, rfl⟩
          · exact ⟨⟨S [101, 105, 116, 104, 101, 114], [-1, -1], -1⟩, by kernel_rfl, rfl⟩
        · exact ⟨⟨S [105, 102], [0, -1, -1], -1⟩, by kernel_rfl, rfl⟩
      obtain ⟨r, hr, hl⟩ := hr
      exact formV_at h1 h2 hr hl hz rfl
    · cases h
  · intro h
    have hz : isNull v = true := formV_null h h1 h2
    have hs := shape h h1 h2
    unfold formR
    rw [if_neg h1, if_neg h2, if_neg (by rw [hz]; simp)]
    rcases hs with ⟨hk, rfl, hn, ho⟩ | ⟨hk, rfl, hn, ho⟩ | ⟨hk, ho, hn⟩
    · have hk : k = 3 := hk
      have hn : nm = S [] := hn
      subst hk hn
      rcases ho with ho | ho <;> (have ho' : op = _ := ho; subst ho'; rfl)
    · have hk : k = 4 := hk
      have hn : nm = S [] := hn
      subst hk hn
      rcases ho with ho | ho | ho | ho | ho | ho | ho | ho | ho | ho | ho | ho | ho <;> (have ho' : op = _ := ho; subst ho'; rfl)
    · have hk : k = 5 := hk
      have ho : op = S [] := ho
      subst hk ho
      rcases hn with ⟨rfl, hn⟩ | ⟨rfl, hn⟩ | ⟨rfl, hn⟩
      · rcases hn with hn | hn | hn <;> (have hn' : nm = _ := hn; subst hn'; rfl)
      · rcases hn with hn | hn <;> (have hn' : nm = _ := hn; subst hn'; rfl)
      · have hn' : nm = _ := hn
        subst hn'
        rfl

def nEI : List ByteArray := [S [101, 105, 116, 104, 101, 114], S [105, 102]]
def nCMP : List ByteArray := [S [61], S [33, 61], S [60], S [60, 61], S [62], S [62, 61]]
def nLC : List ByteArray := [S [108, 101, 110], S [99, 97, 116]]
def nAR : List ByteArray := [S [45], S [43], S [42], S [47], S [37]]
/-- the type that all Args need, 0: any -/
def needV (k : Int) (nm op : ByteArray) : Int := if k = 5 ∧ inL nm nLC = true then 2 else if k = 5 ∧ nm = S [97, 98, 115] ∨ k ≠ 5 ∧ inL op nAR = true then 1 else 0
def misfit (need t : Int) : Bool := decide (need ≠ 0) && (decide (t ≠ 0) && decide (t ≠ need))
/-- the type of a right expression whose Args have these types, as the document's answer reckons it -/
def refTail (k : Int) (nm op : ByteArray) (ts : List Int) : Int × Int :=
  if k = 5 ∧ inL nm nEI = true then
    (if ts.getD (ts.length - 2) 0 ≠ 0 ∧ ts.getD (ts.length - 1) 0 ≠ 0 ∧ ts.getD (ts.length - 2) 0 ≠ ts.getD (ts.length - 1) 0 then (0, 12) else if ts.getD (ts.length - 2) 0 = 0 then (ts.getD (ts.length - 1) 0, 0) else (ts.getD (ts.length - 2) 0, 0))
  else if k = 4 ∧ inL op nCMP = true then (if ts.getD 0 0 ≠ 0 ∧ ts.getD 1 0 ≠ 0 ∧ ts.getD 0 0 ≠ ts.getD 1 0 then (0, 12) else (1, 0))
  else if ts.any (misfit (needV k nm op)) = true then (0, 12)
  else if k = 5 ∧ nm = S [99, 97, 116] then (2, 0) else (1, 0)
/-- .. as the program's rules have it -/
def ruleTail (d : ND) (ts : List Int) : Int × Int :=
  match ruleV d with
  | none => (0, 20)
  | some r => match fitL r.args ts 0 with
    | (both, true) => if r.out = -1 then (both, 0) else (r.out, 0)
    | (_, false) => (0, 12)
theorem tail_match (x : Int × Bool) (out : Int) : (match x with | (both, true) => if out = -1 then (both, 0) else (out, 0) | (_, false) => (0, 12) : Int × Int) = (if x.2 = true then (if out = -1 then (x.1, 0) else (out, 0)) else (0, 12)) := by
  obtain ⟨b, _ | _⟩ := x
  · rw [if_neg (by simp)]
  · rw [if_pos rfl]
theorem ruleTail_at {d : ND} {r : RU} (h : ruleV d = some r) (ts : List Int) : ruleTail d ts = (if (fitL r.args ts 0).2 = true then (if r.out = -1 then ((fitL r.args ts 0).1, 0) else (r.out, 0)) else (0, 12)) := by
  rw [← tail_match]
  unfold ruleTail
  rw [h]
theorem fit1 (w a : Int) (hw : w ≠ -1) : (fitL [w] [a] 0).2 = !misfit w a := by
  unfold misfit
  by_cases h0 : a = 0
  · subst h0; simp [fitL]
  by_cases h1 : w = 0
  · subst h1; simp [fitL]
  by_cases h2 : a = w
  · subst h2; simp [fitL, h0, hw]
  · simp [fitL, h0, h1, h2, hw, Ne.symm h2]
theorem fit2 (w a b : Int) (hw : w ≠ -1) : (fitL [w, w] [a, b] 0).2 = !(misfit w a || misfit w b) := by
  unfold misfit
  by_cases h1 : w = 0
  · subst h1; simp [fitL]
  by_cases h0 : a = 0 <;> by_cases k0 : b = 0 <;> by_cases h2 : a = w <;> by_cases k2 : b = w <;> simp_all [fitL, Ne.symm]
theorem fitO (a b : Int) : fitL [-1, -1] [a, b] 0 = if a ≠ 0 ∧ b ≠ 0 ∧ a ≠ b then (0, false) else if a = 0 then (b, true) else (a, true) := by
  by_cases h0 : a = 0
  · subst h0
    by_cases k0 : b = 0
    · subst k0; simp [fitL]
    · simp [fitL, k0]
  · by_cases k0 : b = 0
    · subst k0; simp [fitL, h0]
    · by_cases e : a = b
      · subst e; simp [fitL, h0]
      · simp [fitL, h0, k0, e]
theorem fitI (c a b : Int) : fitL [0, -1, -1] [c, a, b] 0 = fitL [-1, -1] [a, b] 0 := by
  show (if _ then _ else _) = _
  rw [if_pos (.inr rfl)]
theorem list1 {α : Type} {l : List α} (h : l.length = 1) : ∃ a, l = [a] := by
  match l, h with
  | [a], _ => exact ⟨a, rfl⟩
theorem list2 {α : Type} {l : List α} (h : l.length = 2) : ∃ a b, l = [a, b] := by
  match l, h with
  | [a, b], _ => exact ⟨a, b, rfl⟩
theorem list3 {α : Type} {l : List α} (h : l.length = 3) : ∃ a b c, l = [a, b, c] := by
  match l, h with
  | [a, b, c], _ => exact ⟨a, b, c, rfl⟩
theorem refTail_one {k : Int} {nm op : ByteArray} {ts : List Int} {a b : Int} (h : k = 5 ∧ inL nm nEI = true) (ha : ts.getD (ts.length - 2) 0 = a) (hb : ts.getD (ts.length - 1) 0 = b) : refTail k nm op ts = (if a ≠ 0 ∧ b ≠ 0 ∧ a ≠ b then (0, 12) else if a = 0 then (b, 0) else (a, 0)) := by
  unfold refTail
  rw [if_pos h, ha, hb]
theorem refTail_cmp {k : Int} {nm op : ByteArray} {ts : List Int} {a b : Int} (h : k = 4 ∧ inL op nCMP = true) (ha : ts.getD 0 0 = a) (hb : ts.getD 1 0 = b) : refTail k nm op ts = (if a ≠ 0 ∧ b ≠ 0 ∧ a ≠ b then (0, 12) else (1, 0)) := by
  unfold refTail
  rw [if_neg (fun h5 => by rw [h.1] at h5; exact absurd h5.1 (by decide)), if_pos h, ha, hb]
theorem refTail_need {k : Int} {nm op : ByteArray} {ts : List Int} {nd : Int} (h1 : ¬ (k = 5 ∧ inL nm nEI = true)) (h2 : ¬ (k = 4 ∧ inL op nCMP = true)) (h3 : needV k nm op = nd) : refTail k nm op ts = (if ts.any (misfit nd) = true then (0, 12) else if k = 5 ∧ nm = S [99, 97, 116] then (2, 0) else (1, 0)) := by
  unfold refTail
  rw [if_neg h1, if_neg h2, h3]
/-- a rule of numbers or of texts -/
theorem tail_need {d : ND} {nd out : Int} {ts : List Int} {l : List Int} {nm : ByteArray} (hr : ruleV d = some ⟨nm, l, out⟩) (hl : (l = [nd] ∧ ∃ a, ts = [a]) ∨ (l = [nd, nd] ∧ ∃ a b, ts = [a, b])) (hn : nd ≠ -1) (ho : out ≠ -1)
    (h1 : ¬ (d.kind = 5 ∧ inL d.name nEI = true)) (h2 : ¬ (d.kind = 4 ∧ inL d.op nCMP = true)) (h3 : needV d.kind d.name d.op = nd) (h4 : (if d.kind = 5 ∧ d.name = S [99, 97, 116] then ((2, 0) : Int × Int) else (1, 0)) = (out, 0)) : ruleTail d ts = refTail d.kind d.name d.op ts := by
  rw [ruleTail_at hr, refTail_need h1 h2 h3, h4]
  show (if (fitL l ts 0).2 = true then (if out = -1 then ((fitL l ts 0).1, 0) else (out, 0)) else (0, 12)) = _
  rw [if_neg ho]
  rcases hl with ⟨rfl, a, rfl⟩ | ⟨rfl, a, b, rfl⟩
  · rw [fit1 nd a hn]
    simp only [List.any_cons, List.any_nil, Bool.or_false]
    cases misfit nd a <;> rfl
  · rw [fit2 nd a b hn]
    simp only [List.any_cons, List.any_nil, Bool.or_false]
    cases misfit nd a <;> cases misfit nd b <;> rfl
theorem tail_cmp {d : ND} {ts : List Int} {nm : ByteArray} (hr : ruleV d = some ⟨nm, [-1, -1], 1⟩) (hl : ∃ a b, ts = [a, b]) (hk : d.kind = 4) (h2 : inL d.op nCMP = true) : ruleTail d ts = refTail d.kind d.name d.op ts := by
  obtain ⟨a, b, rfl⟩ := hl
  rw [ruleTail_at hr, refTail_cmp (a := a) (b := b) ⟨hk, h2⟩ rfl rfl]
  show (if (fitL [-1, -1] [a, b] 0).2 = true then (if (1 : Int) = -1 then ((fitL [-1, -1] [a, b] 0).1, 0) else (1, 0)) else (0, 12)) = _
  rw [fitO]
  by_cases e : a ≠ 0 ∧ b ≠ 0 ∧ a ≠ b
  · rw [if_pos e, if_pos e]; rfl
  · rw [if_neg e, if_neg e]; split <;> rfl
theorem one_eq (a b : Int) : (if (fitL [-1, -1] [a, b] 0).2 = true then (if (-1 : Int) = -1 then ((fitL [-1, -1] [a, b] 0).1, 0) else (-1, 0)) else (0, 12) : Int × Int) = (if a ≠ 0 ∧ b ≠ 0 ∧ a ≠ b then (0, 12) else if a = 0 then (b, 0) else (a, 0)) := by
  rw [fitO]
  by_cases e : a ≠ 0 ∧ b ≠ 0 ∧ a ≠ b
  · rw [if_pos e, if_pos e]; rfl
  · rw [if_neg e, if_neg e]
    by_cases e0 : a = 0
    · rw [if_pos e0, if_pos e0]; rfl
    · rw [if_neg e0, if_neg e0]; rfl
theorem tail_one {d : ND} {ts : List Int} {nm : ByteArray} {l : List Int} (hr : ruleV d = some ⟨nm, l, -1⟩) (hl : (l = [-1, -1] ∧ ∃ a b, ts = [a, b]) ∨ (l = [0, -1, -1] ∧ ∃ c a b, ts = [c, a, b])) (hk : d.kind = 5) (h2 : inL d.name nEI = true) : ruleTail d ts = refTail d.kind d.name d.op ts := by
  rw [ruleTail_at hr]
  rcases hl with ⟨rfl, a, b, rfl⟩ | ⟨rfl, c, a, b, rfl⟩
  · rw [refTail_one (a := a) (b := b) ⟨hk, h2⟩ rfl rfl]
    exact one_eq a b
  · rw [refTail_one (a := a) (b := b) ⟨hk, h2⟩ rfl rfl]
    have h := one_eq a b
    rw [← fitI c a b] at h
    exact h
theorem tail_eq {d : ND} {ts : List Int} (h : formV d ts.length = true) (h1 : d.kind ≠ 1) (h2 : d.kind ≠ 2) : ruleTail d ts = refTail d.kind d.name d.op ts := by
  have hs := shape h h1 h2
  obtain ⟨k, nm, v, op⟩ := d
  rcases hs with ⟨hk, hl, hn, ho⟩ | ⟨hk, hl, hn, ho⟩ | ⟨hk, ho, hn⟩
  · have hk : k = 3 := hk
    have hn : nm = S [] := hn
    have hl := list1 hl
    subst hk hn
    rcases ho with ho | ho
    · have ho' : op = _ := ho
      subst ho'
      exact tail_need (nm := S [45]) (l := [1]) (nd := 1) (out := 1) (by kernel_rfl) (.inl ⟨rfl, hl⟩) (by decide) (by decide) (fun h => absurd (show (3 : Int) = 5 from h.1) (by decide)) (fun h => absurd (show (3 : Int) = 4 from h.1) (by decide)) (by rfl) (by rfl)
    · have ho' : op = _ := ho
      subst ho'
      exact tail_need (nm := S [110, 111, 116]) (l := [0]) (nd := 0) (out := 1) (by kernel_rfl) (.inl ⟨rfl, hl⟩) (by decide) (by decide) (fun h => absurd (show (3 : Int) = 5 from h.1) (by decide)) (fun h => absurd (show (3 : Int) = 4 from h.1) (by decide)) (by rfl) (by rfl)
  · have hk : k = 4 := hk
    have hn : nm = S [] := hn
    have hl := list2 hl
    subst hk hn
    rcases ho with ho | ho | ho | ho | ho | ho | ho | ho | ho | ho | ho | ho | ho <;> (have ho' : op = _ := ho; subst ho')
    · exact tail_need (nm := S [43]) (l := [1, 1]) (nd := 1) (out := 1) (by kernel_rfl) (.inr ⟨rfl, hl⟩) (by decide) (by decide) (fun h => absurd (show (4 : Int) = 5 from h.1) (by decide)) (fun h => absurd (show inL (S [43]) nCMP = true from h.2) (by decide)) (by rfl) (by rfl)
    · exact tail_need (nm := S [45]) (l := [1, 1]) (nd := 1) (out := 1) (by kernel_rfl) (.inr ⟨rfl, hl⟩) (by decide) (by decide) (fun h => absurd (show (4 : Int) = 5 from h.1) (by decide)) (fun h => absurd (show inL (S [45]) nCMP = true from h.2) (by decide)) (by rfl) (by rfl)
    · exact tail_need (nm := S [42]) (l := [1, 1]) (nd := 1) (out := 1) (by kernel_rfl) (.inr ⟨rfl, hl⟩) (by decide) (by decide) (fun h => absurd (show (4 : Int) = 5 from h.1) (by decide)) (fun h => absurd (show inL (S [42]) nCMP = true from h.2) (by decide)) (by rfl) (by rfl)
    · exact tail_need (nm := S [47]) (l := [1, 1]) (nd := 1) (out := 1) (by kernel_rfl) (.inr ⟨rfl, hl⟩) (by decide) (by decide) (fun h => absurd (show (4 : Int) = 5 from h.1) (by decide)) (fun h => absurd (show inL (S [47]) nCMP = true from h.2) (by decide)) (by rfl) (by rfl)
    · exact tail_need (nm := S [37]) (l := [1, 1]) (nd := 1) (out := 1) (by kernel_rfl) (.inr ⟨rfl, hl⟩) (by decide) (by decide) (fun h => absurd (show (4 : Int) = 5 from h.1) (by decide)) (fun h => absurd (show inL (S [37]) nCMP = true from h.2) (by decide)) (by rfl) (by rfl)
    · exact tail_cmp (nm := S [61]) (by kernel_rfl) hl rfl (show inL (S [61]) nCMP = true by decide)
    · exact tail_cmp (nm := S [33, 61]) (by kernel_rfl) hl rfl (show inL (S [33, 61]) nCMP = true by decide)
    · exact tail_cmp (nm := S [60]) (by kernel_rfl) hl rfl (show inL (S [60]) nCMP = true by decide)
    · exact tail_cmp (nm := S [60, 61]) (by kernel_rfl) hl rfl (show inL (S [60, 61]) nCMP = true by decide)
    · exact tail_cmp (nm := S [62]) (by kernel_rfl) hl rfl (show inL (S [62]) nCMP = true by decide)
    · exact tail_cmp (nm := S [62, 61]) (by kernel_rfl) hl rfl (show inL (S [62, 61]) nCMP = true by decide)
    · exact tail_need (nm := S [97, 110, 100]) (l := [0, 0]) (nd := 0) (out := 1) (by kernel_rfl) (.inr ⟨rfl, hl⟩) (by decide) (by decide) (fun h => absurd (show (4 : Int) = 5 from h.1) (by decide)) (fun h => absurd (show inL (S [97, 110, 100]) nCMP = true from h.2) (by decide)) (by rfl) (by rfl)
    · exact tail_need (nm := S [111, 114]) (l := [0, 0]) (nd := 0) (out := 1) (by kernel_rfl) (.inr ⟨rfl, hl⟩) (by decide) (by decide) (fun h => absurd (show (4 : Int) = 5 from h.1) (by decide)) (fun h => absurd (show inL (S [111, 114]) nCMP = true from h.2) (by decide)) (by rfl) (by rfl)
  · have hk : k = 5 := hk
    have ho : op = S [] := ho
    subst hk ho
    rcases hn with ⟨hl, hn⟩ | ⟨hl, hn⟩ | ⟨hl, hn⟩
    · have hl := list1 hl
      rcases hn with hn | hn | hn <;> (have hn' : nm = _ := hn; subst hn')
      · exact tail_need (nm := S [108, 101, 110]) (l := [2]) (nd := 2) (out := 1) (by kernel_rfl) (.inl ⟨rfl, hl⟩) (by decide) (by decide) (fun h => absurd (show inL (S [108, 101, 110]) nEI = true from h.2) (by decide)) (fun h => absurd (show (5 : Int) = 4 from h.1) (by decide)) (by rfl) (by rfl)
      · exact tail_need (nm := S [97, 98, 115]) (l := [1]) (nd := 1) (out := 1) (by kernel_rfl) (.inl ⟨rfl, hl⟩) (by decide) (by decide) (fun h => absurd (show inL (S [97, 98, 115]) nEI = true from h.2) (by decide)) (fun h => absurd (show (5 : Int) = 4 from h.1) (by decide)) (by rfl) (by rfl)
      · exact tail_need (nm := S [105, 115, 110, 117, 108, 108]) (l := [0]) (nd := 0) (out := 1) (by kernel_rfl) (.inl ⟨rfl, hl⟩) (by decide) (by decide) (fun h => absurd (show inL (S [105, 115, 110, 117, 108, 108]) nEI = true from h.2) (by decide)) (fun h => absurd (show (5 : Int) = 4 from h.1) (by decide)) (by rfl) (by rfl)
    · have hl := list2 hl
      rcases hn with hn | hn <;> (have hn' : nm = _ := hn; subst hn')
      · exact tail_need (nm := S [99, 97, 116]) (l := [2, 2]) (nd := 2) (out := 2) (by kernel_rfl) (.inr ⟨rfl, hl⟩) (by decide) (by decide) (fun h => absurd (show inL (S [99, 97, 116]) nEI = true from h.2) (by decide)) (fun h => absurd (show (5 : Int) = 4 from h.1) (by decide)) (by rfl) (by rfl)
      · exact tail_one (nm := S [101, 105, 116, 104, 101, 114]) (l := [-1, -1]) (by kernel_rfl) (.inl ⟨rfl, hl⟩) rfl (show inL (S [101, 105, 116, 104, 101, 114]) nEI = true by decide)
    · have hl := list3 hl
      have hn' : nm = _ := hn
      subst hn'
      exact tail_one (nm := S [105, 102]) (l := [0, -1, -1]) (by kernel_rfl) (.inr ⟨rfl, hl⟩) rfl (show inL (S [105, 102]) nEI = true by decide)
end Go.Proofs.Ytlkckkagoommaaa

/- What an expression that fits comes to is of its type, or null; how its value hangs on those of its Args. No walk. -/
namespace Go.Proofs.Ytlkckkagoommaaa
open Go.RowKit

/-- a right value of a type, or null; or the null value with an error of reckoning -/
def Snd (t : Int) (r : VD × Int) : Prop := (r.2 = 0 → r.1.right = true ∧ (r.1.kind = 0 ∨ r.1.kind = t)) ∧ (r.2 ≠ 0 → r.1 = zeroV ∧ (r.2 = 10 ∨ r.2 = 11))
theorem empty_S : (S []).toList.isEmpty = true := by rw [isEmpty_S]; simp
theorem right0 (n : Int) (t : ByteArray) : VD.right ⟨0, n, t⟩ = (decide (n = 0) && t.toList.isEmpty) := rfl
theorem right1 (n : Int) (t : ByteArray) : VD.right ⟨1, n, t⟩ = t.toList.isEmpty := rfl
theorem right2 (n : Int) (t : ByteArray) : VD.right ⟨2, n, t⟩ = (decide (n = 0) && plainV t.data.toList) := rfl
theorem right_of (n : Int) : (ofV n).right = true := (right1 n (S [])).trans empty_S
theorem right_zero : zeroV.right = true := (right0 0 (S [])).trans (by rw [empty_S]; rfl)
theorem right_bit (b : Bool) : (bitV b).right = true := by
  cases b
  · exact right_of 0
  · exact right_of 1
theorem bit_kind (b : Bool) : (bitV b).kind = 1 := by cases b <;> rfl
theorem zero_of {v : VD} (h : v.right = true) (h0 : v.kind = 0) : v = zeroV := by
  obtain ⟨k, n, t⟩ := v
  have h0 : k = 0 := h0
  subst h0
  rw [right0, Bool.and_eq_true, isEmpty_S] at h
  rw [of_decide_eq_true h.1, of_decide_eq_true h.2]; rfl
theorem right_kinds {v : VD} (h : v.right = true) : v.kind = 0 ∨ v.kind = 1 ∨ v.kind = 2 := by
  unfold VD.right at h
  split at h
  · exact .inl ‹_›
  · split at h
    · exact .inr (.inl ‹_›)
    · split at h
      · exact .inr (.inr ‹_›)
      · cases h
theorem Snd.ok {t : Int} {v : VD} (h : v.right = true) (hk : v.kind = 0 ∨ v.kind = t) : Snd t (v, 0) := ⟨fun _ => ⟨h, hk⟩, fun h => absurd rfl h⟩
theorem Snd.zero (t : Int) : Snd t (zeroV, 0) := Snd.ok right_zero (.inl rfl)
theorem Snd.num (n : Int) : Snd 1 (ofV n, 0) := Snd.ok (right_of n) (.inr rfl)
theorem Snd.bit (b : Bool) : Snd 1 (bitV b, 0) := Snd.ok (right_bit b) (.inr (bit_kind b))
theorem Snd.err {t t' : Int} {r : VD × Int} (h : Snd t r) (he : r.2 ≠ 0) : Snd t' (zeroV, r.2) := ⟨fun h0 => absurd h0 he, fun _ => ⟨rfl, (h.2 he).2⟩⟩
theorem snd_arith (o : Int) (ho : o = 43 ∨ o = 45 ∨ o = 42 ∨ o = 47 ∨ o = 37) (a b : VD) (ha : a.kind ≠ 2) (hb : b.kind ≠ 2) : Snd 1 (arithV o a b) := by
  unfold arithV
  rw [if_neg (by omega), if_neg (by omega)]
  split
  · exact Snd.zero 1
  · split
    · exact ⟨fun h => (by cases h), fun _ => ⟨rfl, .inr rfl⟩⟩
    · split
      · exact Snd.num _
      · exact ⟨fun h => (by cases h), fun _ => ⟨rfl, .inl rfl⟩⟩
theorem snd_compare (o : Int) (a b : VD) : Snd 1 (compareV o a b, 0) := by
  unfold compareV
  split
  · exact Snd.zero 1
  · exact Snd.bit _
theorem right_text {t : ByteArray} : (VD.right ⟨2, 0, t⟩) = plainV t.data.toList := (right2 0 t).trans (by simp)
theorem plain_of {v : VD} (hv : v.right = true) (hk : v.kind = 2) : v.text.data.toList.all okB = true := by
  obtain ⟨k, n, t⟩ := v
  have hk : k = 2 := hk
  subst hk
  rw [right2, Bool.and_eq_true] at hv
  have h2 := hv.2
  unfold plainV at h2
  rw [Bool.and_eq_true] at h2
  exact h2.1
theorem snd_cat {a b : VD} (ha : a.right = true) (hb : b.right = true) (ka : a.kind = 0 ∨ a.kind = 2) (kb : b.kind = 0 ∨ b.kind = 2) : Snd 2 (catV a b) := by
  unfold catV
  split
  · exact Snd.zero 2
  · rename_i h0
    split
    · exact ⟨fun h => (by cases h), fun _ => ⟨rfl, .inl rfl⟩⟩
    · rename_i h64
      refine Snd.ok ?_ (.inr rfl)
      rw [right_text]
      unfold plainV
      rw [ByteArray.data_append, Array.toList_append, List.all_append, plain_of ha (by omega), plain_of hb (by omega), List.length_append, size_toList, size_toList]
      simp
      omega

section
variable (cs : List CD) (row : List VD) (n : Nat)
theorem ev1 (d : ND) (a : TX n) (h1 : d.kind ≠ 1) (h2 : d.kind ≠ 2) (hl : ∀ f, lazyV d f = none) : evalX cs row (n + 1) (d, [a]) = if (evalX cs row n a).2 ≠ 0 then (zeroV, (evalX cs row n a).2) else aloneV d (evalX cs row n a).1 := by
  rw [evalX_at cs row n ((d, [a]) : TX (n + 1)) h1 h2 (by simp)]
  have hx : lazyX (evalX cs row n) d [a] (evalX cs row n a).1 = none := by unfold lazyX; rw [hl]
  show (if (evalX cs row n a).2 ≠ 0 then _ else match lazyX (evalX cs row n) d [a] (evalX cs row n a).1 with | some z => z | none => _) = _
  rw [hx]; rfl
theorem ev2 (d : ND) (a b : TX n) (h1 : d.kind ≠ 1) (h2 : d.kind ≠ 2) (hl : ∀ f, lazyV d f = none) : evalX cs row (n + 1) (d, [a, b]) = if (evalX cs row n a).2 ≠ 0 then (zeroV, (evalX cs row n a).2) else if (evalX cs row n b).2 ≠ 0 then (zeroV, (evalX cs row n b).2) else bothV d (evalX cs row n a).1 (evalX cs row n b).1 := by
  rw [evalX_at cs row n ((d, [a, b]) : TX (n + 1)) h1 h2 (by simp)]
  have hx : lazyX (evalX cs row n) d [a, b] (evalX cs row n a).1 = none := by unfold lazyX; rw [hl]
  show (if (evalX cs row n a).2 ≠ 0 then _ else match lazyX (evalX cs row n) d [a, b] (evalX cs row n a).1 with | some z => z | none => _) = _
  rw [hx]; rfl
theorem evL (d : ND) (a : TX n) (r : List (TX n)) (h1 : d.kind ≠ 1) (h2 : d.kind ≠ 2) (z : VD × Int) (hl : lazyX (evalX cs row n) d (a :: r) (evalX cs row n a).1 = some z) : evalX cs row (n + 1) (d, a :: r) = if (evalX cs row n a).2 ≠ 0 then (zeroV, (evalX cs row n a).2) else z := by
  rw [evalX_at cs row n ((d, a :: r) : TX (n + 1)) h1 h2 (by simp)]
  show (if (evalX cs row n a).2 ≠ 0 then _ else match lazyX (evalX cs row n) d (a :: r) (evalX cs row n a).1 with | some z => z | none => _) = _
  rw [hl]; rfl
theorem lazyX_val {α : Type} (ev : α → VD × Int) (d : ND) (args : List α) (f v : VD) (h : lazyV d f = some (.inl v)) : lazyX ev d args f = some (v, 0) := by unfold lazyX; rw [h]
theorem lazyX_arg {α : Type} (ev : α → VD × Int) (d : ND) (args : List α) (f : VD) (q : Nat) (a : α) (h : lazyV d f = some (.inr q)) (hq : args[q]? = some a) : lazyX ev d args f = some (bitIf d.kind (ev a)) := by
  unfold lazyX; rw [h]; simp only; rw [hq]
theorem ev_and (v : VD) (a b : TX n) : evalX cs row (n + 1) (⟨4, S [], v, wAnd⟩, [a, b]) = if (evalX cs row n a).2 ≠ 0 then (zeroV, (evalX cs row n a).2) else if (evalX cs row n a).1.tru = true then bitIf 4 (evalX cs row n b) else (ofV 0, 0) := by
  by_cases ht : (evalX cs row n a).1.tru = true
  · rw [evL cs row n ⟨4, S [], v, wAnd⟩ a [b] (show (4 : Int) ≠ 1 by decide) (show (4 : Int) ≠ 2 by decide) _ (lazyX_arg _ _ _ _ 1 b (by unfold lazyV; rw [if_pos rfl, if_pos ht]) rfl), if_pos ht]
  · rw [evL cs row n ⟨4, S [], v, wAnd⟩ a [b] (show (4 : Int) ≠ 1 by decide) (show (4 : Int) ≠ 2 by decide) _ (lazyX_val _ _ _ _ (ofV 0) (by unfold lazyV; rw [if_pos rfl, if_neg ht])), if_neg ht]
theorem ev_or (v : VD) (a b : TX n) : evalX cs row (n + 1) (⟨4, S [], v, wOr⟩, [a, b]) = if (evalX cs row n a).2 ≠ 0 then (zeroV, (evalX cs row n a).2) else if (evalX cs row n a).1.tru = true then (ofV 1, 0) else bitIf 4 (evalX cs row n b) := by
  have h0 : wOr ≠ wAnd := S_ne (by decide)
  by_cases ht : (evalX cs row n a).1.tru = true
  · rw [evL cs row n ⟨4, S [], v, wOr⟩ a [b] (show (4 : Int) ≠ 1 by decide) (show (4 : Int) ≠ 2 by decide) _ (lazyX_val _ _ _ _ (ofV 1) (by unfold lazyV; rw [if_neg h0, if_pos rfl, if_pos ht])), if_pos ht]
  · rw [evL cs row n ⟨4, S [], v, wOr⟩ a [b] (show (4 : Int) ≠ 1 by decide) (show (4 : Int) ≠ 2 by decide) _ (lazyX_arg _ _ _ _ 1 b (by unfold lazyV; rw [if_neg h0, if_pos rfl, if_neg ht]) rfl), if_neg ht]
theorem ev_either (v : VD) (a b : TX n) : evalX cs row (n + 1) (⟨5, wEither, v, S []⟩, [a, b]) = if (evalX cs row n a).2 ≠ 0 then (zeroV, (evalX cs row n a).2) else if (evalX cs row n a).1.kind = 0 then evalX cs row n b else ((evalX cs row n a).1, 0) := by
  have h0 : S [] ≠ wAnd := S_ne (by decide)
  have h1 : S [] ≠ wOr := S_ne (by decide)
  have hb : ∀ r : VD × Int, bitIf 5 r = r := fun r => by unfold bitIf; rw [if_neg (fun h => absurd h.2 (by decide))]
  by_cases ht : (evalX cs row n a).1.kind = 0
  · rw [evL cs row n ⟨5, wEither, v, S []⟩ a [b] (show (5 : Int) ≠ 1 by decide) (show (5 : Int) ≠ 2 by decide) _ (lazyX_arg _ _ _ _ 1 b (by unfold lazyV; rw [if_neg h0, if_neg h1, if_pos rfl, if_pos ht]) rfl), if_pos ht]
    simp only [hb]
  · rw [evL cs row n ⟨5, wEither, v, S []⟩ a [b] (show (5 : Int) ≠ 1 by decide) (show (5 : Int) ≠ 2 by decide) _ (lazyX_val _ _ _ _ _ (by unfold lazyV; rw [if_neg h0, if_neg h1, if_pos rfl, if_neg ht])), if_neg ht]
theorem ev_if (v : VD) (a b c : TX n) : evalX cs row (n + 1) (⟨5, wIf, v, S []⟩, [a, b, c]) = if (evalX cs row n a).2 ≠ 0 then (zeroV, (evalX cs row n a).2) else if (evalX cs row n a).1.tru = true then evalX cs row n b else evalX cs row n c := by
  have h0 : S [] ≠ wAnd := S_ne (by decide)
  have h1 : S [] ≠ wOr := S_ne (by decide)
  have h2 : wIf ≠ wEither := S_ne (by decide)
  have hb : ∀ r : VD × Int, bitIf 5 r = r := fun r => by unfold bitIf; rw [if_neg (fun h => absurd h.2 (by decide))]
  by_cases ht : (evalX cs row n a).1.tru = true
  · rw [evL cs row n ⟨5, wIf, v, S []⟩ a [b, c] (show (5 : Int) ≠ 1 by decide) (show (5 : Int) ≠ 2 by decide) _ (lazyX_arg _ _ _ _ 1 b (by unfold lazyV; rw [if_neg h0, if_neg h1, if_neg h2, if_pos rfl, if_pos ht]) rfl), if_pos ht]
    simp only [hb]
  · rw [evL cs row n ⟨5, wIf, v, S []⟩ a [b, c] (show (5 : Int) ≠ 1 by decide) (show (5 : Int) ≠ 2 by decide) _ (lazyX_arg _ _ _ _ 2 c (by unfold lazyV; rw [if_neg h0, if_neg h1, if_neg h2, if_pos rfl, if_neg ht]) rfl), if_neg ht]
    simp only [hb]
end
/-- how a right type comes about -/
theorem typed_inv {cs : List CD} {n d : Nat} {e : TX (n + 1)} (h : (typedX cs (n + 1) d e).2 = 0) : formV e.1 e.2.length = true ∧
    ((e.1.kind = 2 ∧ (typedX cs (n + 1) d e).1 = e.1.v.kind) ∨ (e.1.kind = 1 ∧ ∃ k, placeV cs e.1.name = some k ∧ ∃ hk : k < cs.length, (typedX cs (n + 1) d e).1 = cs[k].typ) ∨
      (e.1.kind ≠ 1 ∧ e.1.kind ≠ 2 ∧ (∀ a ∈ e.2, (typedX cs n (d + 1) a).2 = 0) ∧ typedX cs (n + 1) d e = refTail e.1.kind e.1.name e.1.op (e.2.map fun a => (typedX cs n (d + 1) a).1))) := by
  rw [typedX_succ] at h ⊢
  by_cases h1 : 32 < d
  · rw [if_pos h1] at h; cases h
  rw [if_neg h1] at h ⊢
  by_cases h2 : formV e.1 e.2.length = false
  · rw [if_pos h2] at h; cases h
  rw [if_neg h2] at h ⊢
  have h2' : formV e.1 e.2.length = true := by simpa using h2
  refine ⟨h2', ?_⟩
  by_cases h3 : e.1.kind = 2
  · rw [if_pos h3]; exact .inl ⟨h3, rfl⟩
  rw [if_neg h3] at h ⊢
  by_cases h4 : e.1.kind = 1
  · rw [if_pos h4] at h ⊢
    refine .inr (.inl ⟨h4, ?_⟩)
    rcases hp : placeV cs e.1.name with _ | q
    · unfold colT at h; rw [hp] at h; cases h
    · refine ⟨q, rfl, placeV_lt hp, ?_⟩
      unfold colT
      rw [hp]
      simp only
      rw [List.getElem?_eq_getElem (placeV_lt hp)]
      rfl
  rw [if_neg h4] at h ⊢
  refine .inr (.inr ⟨h4, h3, ?_⟩)
  rcases hf : e.2.find? (fun a => decide ((typedX cs n (d + 1) a).2 ≠ 0)) with _ | b
  · rw [hf] at h
    refine ⟨fun a ha => ?_, ?_⟩
    · have := List.find?_eq_none.1 hf a ha
      simpa using this
    · exact tail_eq (ts := e.2.map fun a => (typedX cs n (d + 1) a).1) (by rw [List.length_map]; exact h2') h4 h3
  · rw [hf] at h
    have := List.find?_some hf
    simp only [decide_eq_true_eq] at this
    exact absurd h this
end Go.Proofs.Ytlkckkagoommaaa

/- What an expression that fits comes to is of its type, or null: for every expression. No walk. -/
namespace Go.Proofs.Ytlkckkagoommaaa
open Go.RowKit

theorem Snd.to {t t' : Int} {r : VD × Int} (h : Snd t r) (ht : t = t' ∨ t = 0) : Snd t' r := by
  refine ⟨fun h0 => ⟨(h.1 h0).1, ?_⟩, fun h0 => ⟨(h.2 h0).1, (h.2 h0).2⟩⟩
  rcases (h.1 h0).2 with q | q
  · exact .inl q
  · rcases ht with rfl | rfl
    · exact .inr q
    · exact .inl q
theorem Snd.pair {t : Int} {r : VD × Int} (h : Snd t r) (h0 : r.2 = 0) : Snd t (r.1, 0) := Snd.ok (h.1 h0).1 (h.1 h0).2
theorem snd_bitIf {t : Int} {r : VD × Int} (h : Snd t r) : Snd 1 (bitIf 4 r) := by
  unfold bitIf
  by_cases h0 : r.2 = 0
  · rw [if_pos ⟨h0, rfl⟩]; exact Snd.bit _
  · rw [if_neg (fun q => h0 q.1)]
    exact ⟨fun q => absurd q h0, fun _ => ⟨(h.2 h0).1, (h.2 h0).2⟩⟩
theorem snd_if {t : Int} {r z : VD × Int} (h : Snd t r) {t' : Int} (hz : r.2 = 0 → Snd t' z) : Snd t' (if r.2 ≠ 0 then (zeroV, r.2) else z) := by
  by_cases h0 : r.2 = 0
  · rw [if_neg (by simpa using h0)]; exact hz h0
  · rw [if_pos h0]; exact h.err h0
theorem misfit_no {nd t : Int} (h : misfit nd t = false) (hn : nd ≠ 0) : t = 0 ∨ t = nd := by
  unfold misfit at h
  rw [decide_eq_true hn, Bool.true_and, Bool.and_eq_false_iff] at h
  rcases h with h | h
  · left; simpa using h
  · right; simpa using h
theorem need1 {k : Int} {nm op : ByteArray} {nd a : Int} (h1 : ¬ (k = 5 ∧ inL nm nEI = true)) (h2 : ¬ (k = 4 ∧ inL op nCMP = true)) (h3 : needV k nm op = nd) (h : (refTail k nm op [a]).2 = 0) : misfit nd a = false ∧ refTail k nm op [a] = if k = 5 ∧ nm = S [99, 97, 116] then (2, 0) else (1, 0) := by
  rw [refTail_need h1 h2 h3] at h ⊢
  simp only [List.any_cons, List.any_nil, Bool.or_false] at h ⊢
  cases hm : misfit nd a
  · rw [hm] at h; exact ⟨rfl, if_neg (by simp)⟩
  · rw [hm, if_pos rfl] at h; cases h
theorem need2 {k : Int} {nm op : ByteArray} {nd a b : Int} (h1 : ¬ (k = 5 ∧ inL nm nEI = true)) (h2 : ¬ (k = 4 ∧ inL op nCMP = true)) (h3 : needV k nm op = nd) (h : (refTail k nm op [a, b]).2 = 0) : misfit nd a = false ∧ misfit nd b = false ∧ refTail k nm op [a, b] = if k = 5 ∧ nm = S [99, 97, 116] then (2, 0) else (1, 0) := by
  rw [refTail_need h1 h2 h3] at h ⊢
  simp only [List.any_cons, List.any_nil, Bool.or_false] at h ⊢
  cases hm : misfit nd a
  · cases hm2 : misfit nd b
    · exact ⟨rfl, rfl, if_neg (by simp)⟩
    · rw [hm, hm2] at h; exact absurd h (by simp)
  · rw [hm] at h; exact absurd h (by simp)
theorem alone_neg (v f : VD) : aloneV ⟨3, S [], v, S [45]⟩ f = if f.kind = 0 then (f, 0) else arithV 45 (ofV 0) f := by
  have w1 : S [45] ≠ wNot := S_ne (by decide)
  have w2 : S [] ≠ wIsnull := S_ne (by decide)
  have w3 : S [] ≠ wLen := S_ne (by decide)
  have w4 : S [] ≠ wAbs := S_ne (by decide)
  unfold aloneV
  rw [if_neg w1, if_neg w2, if_neg w3, if_neg (show ¬ (S [] = wAbs ∧ 0 ≤ f.num) from fun q => w4 q.1)]
theorem alone_not (v f : VD) : aloneV ⟨3, S [], v, wNot⟩ f = (bitV (!f.tru), 0) := by unfold aloneV; rw [if_pos (show wNot = wNot from rfl)]
theorem alone_len (v f : VD) : aloneV ⟨5, wLen, v, S []⟩ f = if f.kind = 0 then (f, 0) else (ofV f.text.size, 0) := by
  have w1 : S [] ≠ wNot := S_ne (by decide)
  have w2 : wLen ≠ wIsnull := S_ne (by decide)
  unfold aloneV
  rw [if_neg w1, if_neg w2, if_pos (show wLen = wLen from rfl)]
theorem alone_abs (v f : VD) : aloneV ⟨5, wAbs, v, S []⟩ f = if f.kind = 0 then (f, 0) else if 0 ≤ f.num then (f, 0) else arithV 45 (ofV 0) f := by
  have w1 : S [] ≠ wNot := S_ne (by decide)
  have w2 : wAbs ≠ wIsnull := S_ne (by decide)
  have w3 : wAbs ≠ wLen := S_ne (by decide)
  unfold aloneV
  rw [if_neg w1, if_neg w2, if_neg w3]
  by_cases h : 0 ≤ f.num
  · rw [if_pos (show wAbs = wAbs ∧ 0 ≤ f.num from ⟨rfl, h⟩), if_pos h]
  · rw [if_neg (show ¬ (wAbs = wAbs ∧ 0 ≤ f.num) from fun q => h q.2), if_neg h]
theorem alone_isnull (v f : VD) : aloneV ⟨5, wIsnull, v, S []⟩ f = (bitV (decide (f.kind = 0)), 0) := by
  have w1 : S [] ≠ wNot := S_ne (by decide)
  unfold aloneV
  rw [if_neg w1, if_pos (show wIsnull = wIsnull from rfl)]
theorem both_cat (v f s : VD) : bothV ⟨5, wCat, v, S []⟩ f s = catV f s := by unfold bothV; rw [if_pos (show wCat = wCat from rfl)]
theorem both_cmp (op : ByteArray) (v f s : VD) (h : 0 < cmpI op) : bothV ⟨4, S [], v, op⟩ f s = (compareV (cmpI op) f s, 0) := by
  have w1 : S [] ≠ wCat := S_ne (by decide)
  unfold bothV
  rw [if_neg w1, if_pos h]
theorem both_ari (o : UInt8) (v f s : VD) (h : ¬ 0 < cmpI (S [o])) : bothV ⟨4, S [], v, S [o]⟩ f s = arithV (o.toNat : Int) f s := by
  have w1 : S [] ≠ wCat := S_ne (by decide)
  unfold bothV
  rw [if_neg w1, if_neg h]
  rfl
theorem lazy_none (k : Int) (nm op : ByteArray) (v : VD) (h1 : op ≠ wAnd) (h2 : op ≠ wOr) (h3 : nm ≠ wEither) (h4 : nm ≠ wIf) : ∀ f, lazyV ⟨k, nm, v, op⟩ f = none := fun f => by
  unfold lazyV
  rw [if_neg h1, if_neg h2, if_neg h3, if_neg h4]
theorem fitR_at {cs : List CD} {row : List VD} (h : fitR cs row = true) (k : Nat) (h1 : k < cs.length) (h2 : k < row.length) : fitC cs[k] row[k] = true := by
  unfold fitR at h
  rw [Bool.and_eq_true, List.all_eq_true] at h
  have hk : k < (List.zipWith fitC cs row).length := by rw [List.length_zipWith]; omega
  have := h.2 _ (List.getElem_mem hk)
  rw [List.getElem_zipWith] at this
  exact this
theorem snd_alone {t : Int} {f : VD} (h : Snd t (f, 0)) (ht : t = 0 ∨ t = 1) : Snd 1 (if f.kind = 0 then (f, 0) else arithV 45 (ofV 0) f) := by
  obtain ⟨hr, hk⟩ := h.1 rfl
  by_cases h0 : f.kind = 0
  · rw [if_pos h0]; exact Snd.ok hr (.inl h0)
  · rw [if_neg h0]
    exact snd_arith 45 (by decide) _ _ (by decide) (fun q => by have hk : f.kind = 0 ∨ f.kind = t := hk; omega)
/-- the value of an operation whose Args are sound -/
def AllS (cs : List CD) (row : List VD) (n d : Nat) (args : List (TX n)) : Prop := ∀ a ∈ args, Snd (typedX cs n d a).1 (evalX cs row n a)
theorem snd_neg {cs : List CD} {row : List VD} {n d : Nat} (v : VD) (a : TX n) (ih : AllS cs row n d [a]) (h : (refTail 3 (S []) (S [45]) [(typedX cs n d a).1]).2 = 0) : Snd (refTail 3 (S []) (S [45]) [(typedX cs n d a).1]).1 (evalX cs row (n + 1) (⟨3, S [], v, S [45]⟩, [a])) := by
  have ha := ih a List.mem_cons_self
  obtain ⟨h1, h2⟩ := need1 (nd := 1) (fun q => absurd (show (3 : Int) = 5 from q.1) (by decide)) (fun q => absurd (show (3 : Int) = 4 from q.1) (by decide)) rfl h
  rw [h2, if_neg (fun q => absurd (show (3 : Int) = 5 from q.1) (by decide)), ev1 cs row n ⟨3, S [], v, S [45]⟩ a (show (3 : Int) ≠ 1 by decide) (show (3 : Int) ≠ 2 by decide) (lazy_none _ _ _ _ (S_ne (by decide)) (S_ne (by decide)) (S_ne (by decide)) (S_ne (by decide)))]
  refine snd_if ha fun h0 => ?_
  rw [alone_neg]
  exact snd_alone (ha.pair h0) (misfit_no h1 (by decide))
theorem snd_not {cs : List CD} {row : List VD} {n d : Nat} (v : VD) (a : TX n) (ih : AllS cs row n d [a]) (h : (refTail 3 (S []) (wNot) [(typedX cs n d a).1]).2 = 0) : Snd (refTail 3 (S []) (wNot) [(typedX cs n d a).1]).1 (evalX cs row (n + 1) (⟨3, S [], v, wNot⟩, [a])) := by
  have ha := ih a List.mem_cons_self
  obtain ⟨h1, h2⟩ := need1 (nd := 0) (fun q => absurd (show (3 : Int) = 5 from q.1) (by decide)) (fun q => absurd (show (3 : Int) = 4 from q.1) (by decide)) rfl h
  rw [h2, if_neg (fun q => absurd (show (3 : Int) = 5 from q.1) (by decide)), ev1 cs row n ⟨3, S [], v, wNot⟩ a (show (3 : Int) ≠ 1 by decide) (show (3 : Int) ≠ 2 by decide) (lazy_none _ _ _ _ (S_ne (by decide)) (S_ne (by decide)) (S_ne (by decide)) (S_ne (by decide)))]
  refine snd_if ha fun h0 => ?_
  rw [alone_not]
  exact Snd.bit _
theorem snd_len {cs : List CD} {row : List VD} {n d : Nat} (v : VD) (a : TX n) (ih : AllS cs row n d [a]) (h : (refTail 5 (wLen) (S []) [(typedX cs n d a).1]).2 = 0) : Snd (refTail 5 (wLen) (S []) [(typedX cs n d a).1]).1 (evalX cs row (n + 1) (⟨5, wLen, v, S []⟩, [a])) := by
  have ha := ih a List.mem_cons_self
  obtain ⟨h1, h2⟩ := need1 (nd := 2) (fun q => absurd (show inL (wLen) nEI = true from q.2) (by decide)) (fun q => absurd (show (5 : Int) = 4 from q.1) (by decide)) rfl h
  rw [h2, if_neg (fun q => absurd (show wLen = S [99, 97, 116] from q.2) (S_ne (by decide))), ev1 cs row n ⟨5, wLen, v, S []⟩ a (show (5 : Int) ≠ 1 by decide) (show (5 : Int) ≠ 2 by decide) (lazy_none _ _ _ _ (S_ne (by decide)) (S_ne (by decide)) (S_ne (by decide)) (S_ne (by decide)))]
  refine snd_if ha fun h0 => ?_
  rw [alone_len]
  split
  · rename_i q; exact Snd.ok (ha.1 h0).1 (.inl q)
  · exact Snd.num _
theorem snd_abs {cs : List CD} {row : List VD} {n d : Nat} (v : VD) (a : TX n) (ih : AllS cs row n d [a]) (h : (refTail 5 (wAbs) (S []) [(typedX cs n d a).1]).2 = 0) : Snd (refTail 5 (wAbs) (S []) [(typedX cs n d a).1]).1 (evalX cs row (n + 1) (⟨5, wAbs, v, S []⟩, [a])) := by
  have ha := ih a List.mem_cons_self
  obtain ⟨h1, h2⟩ := need1 (nd := 1) (fun q => absurd (show inL (wAbs) nEI = true from q.2) (by decide)) (fun q => absurd (show (5 : Int) = 4 from q.1) (by decide)) rfl h
  rw [h2, if_neg (fun q => absurd (show wAbs = S [99, 97, 116] from q.2) (S_ne (by decide))), ev1 cs row n ⟨5, wAbs, v, S []⟩ a (show (5 : Int) ≠ 1 by decide) (show (5 : Int) ≠ 2 by decide) (lazy_none _ _ _ _ (S_ne (by decide)) (S_ne (by decide)) (S_ne (by decide)) (S_ne (by decide)))]
  refine snd_if ha fun h0 => ?_
  rw [alone_abs]
  have hs := snd_alone (ha.pair h0) (misfit_no h1 (by decide))
  by_cases q : (evalX cs row n a).1.kind = 0
  · rw [if_pos q]; exact Snd.ok (ha.1 h0).1 (.inl q)
  rw [if_neg q] at hs ⊢
  split
  · exact Snd.ok (ha.1 h0).1 (.inr (by have h5 := (ha.1 h0).2; have h6 := misfit_no h1 (by decide); omega))
  · exact hs
theorem snd_isnull {cs : List CD} {row : List VD} {n d : Nat} (v : VD) (a : TX n) (ih : AllS cs row n d [a]) (h : (refTail 5 (wIsnull) (S []) [(typedX cs n d a).1]).2 = 0) : Snd (refTail 5 (wIsnull) (S []) [(typedX cs n d a).1]).1 (evalX cs row (n + 1) (⟨5, wIsnull, v, S []⟩, [a])) := by
  have ha := ih a List.mem_cons_self
  obtain ⟨h1, h2⟩ := need1 (nd := 0) (fun q => absurd (show inL (wIsnull) nEI = true from q.2) (by decide)) (fun q => absurd (show (5 : Int) = 4 from q.1) (by decide)) rfl h
  rw [h2, if_neg (fun q => absurd (show wIsnull = S [99, 97, 116] from q.2) (S_ne (by decide))), ev1 cs row n ⟨5, wIsnull, v, S []⟩ a (show (5 : Int) ≠ 1 by decide) (show (5 : Int) ≠ 2 by decide) (lazy_none _ _ _ _ (S_ne (by decide)) (S_ne (by decide)) (S_ne (by decide)) (S_ne (by decide)))]
  refine snd_if ha fun h0 => ?_
  rw [alone_isnull]
  exact Snd.bit _
theorem snd_ari0 {cs : List CD} {row : List VD} {n d : Nat} (v : VD) (a b : TX n) (ih : AllS cs row n d [a, b]) (h : (refTail 4 (S []) (S [43]) [(typedX cs n d a).1, (typedX cs n d b).1]).2 = 0) : Snd (refTail 4 (S []) (S [43]) [(typedX cs n d a).1, (typedX cs n d b).1]).1 (evalX cs row (n + 1) (⟨4, S [], v, S [43]⟩, [a, b])) := by
  have ha := ih a List.mem_cons_self
  have hb := ih b (List.mem_cons_of_mem _ List.mem_cons_self)
  obtain ⟨h1, h3, h2⟩ := need2 (nd := 1) (fun q => absurd (show (4 : Int) = 5 from q.1) (by decide)) (fun q => absurd (show inL (S [43]) nCMP = true from q.2) (by decide)) rfl h
  rw [h2, if_neg (fun q => absurd (show (4 : Int) = 5 from q.1) (by decide)), ev2 cs row n ⟨4, S [], v, S [43]⟩ a b (show (4 : Int) ≠ 1 by decide) (show (4 : Int) ≠ 2 by decide) (lazy_none _ _ _ _ (S_ne (by decide)) (S_ne (by decide)) (S_ne (by decide)) (S_ne (by decide)))]
  refine snd_if ha fun h0 => snd_if hb fun h5 => ?_
  rw [both_ari 43 _ _ _ (by decide)]
  have ka := (ha.1 h0).2; have kb := (hb.1 h5).2; have ma := misfit_no h1 (by decide); have mb := misfit_no h3 (by decide)
  exact snd_arith _ (by decide) _ _ (by omega) (by omega)
theorem snd_ari1 {cs : List CD} {row : List VD} {n d : Nat} (v : VD) (a b : TX n) (ih : AllS cs row n d [a, b]) (h : (refTail 4 (S []) (S [45]) [(typedX cs n d a).1, (typedX cs n d b).1]).2 = 0) : Snd (refTail 4 (S []) (S [45]) [(typedX cs n d a).1, (typedX cs n d b).1]).1 (evalX cs row (n + 1) (⟨4, S [], v, S [45]⟩, [a, b])) := by
  have ha := ih a List.mem_cons_self
  have hb := ih b (List.mem_cons_of_mem _ List.mem_cons_self)
  obtain ⟨h1, h3, h2⟩ := need2 (nd := 1) (fun q => absurd (show (4 : Int) = 5 from q.1) (by decide)) (fun q => absurd (show inL (S [45]) nCMP = true from q.2) (by decide)) rfl h
  rw [h2, if_neg (fun q => absurd (show (4 : Int) = 5 from q.1) (by decide)), ev2 cs row n ⟨4, S [], v, S [45]⟩ a b (show (4 : Int) ≠ 1 by decide) (show (4 : Int) ≠ 2 by decide) (lazy_none _ _ _ _ (S_ne (by decide)) (S_ne (by decide)) (S_ne (by decide)) (S_ne (by decide)))]
  refine snd_if ha fun h0 => snd_if hb fun h5 => ?_
  rw [both_ari 45 _ _ _ (by decide)]
  have ka := (ha.1 h0).2; have kb := (hb.1 h5).2; have ma := misfit_no h1 (by decide); have mb := misfit_no h3 (by decide)
  exact snd_arith _ (by decide) _ _ (by omega) (by omega)
theorem snd_ari2 {cs : List CD} {row : List VD} {n d : Nat} (v : VD) (a b : TX n) (ih : AllS cs row n d [a, b]) (h : (refTail 4 (S []) (S [42]) [(typedX cs n d a).1, (typedX cs n d b).1]).2 = 0) : Snd (refTail 4 (S []) (S [42]) [(typedX cs n d a).1, (typedX cs n d b).1]).1 (evalX cs row (n + 1) (⟨4, S [], v, S [42]⟩, [a, b])) := by
  have ha := ih a List.mem_cons_self
  have hb := ih b (List.mem_cons_of_mem _ List.mem_cons_self)
  obtain ⟨h1, h3, h2⟩ := need2 (nd := 1) (fun q => absurd (show (4 : Int) = 5 from q.1) (by decide)) (fun q => absurd (show inL (S [42]) nCMP = true from q.2) (by decide)) rfl h
  rw [h2, if_neg (fun q => absurd (show (4 : Int) = 5 from q.1) (by decide)), ev2 cs row n ⟨4, S [], v, S [42]⟩ a b (show (4 : Int) ≠ 1 by decide) (show (4 : Int) ≠ 2 by decide) (lazy_none _ _ _ _ (S_ne (by decide)) (S_ne (by decide)) (S_ne (by decide)) (S_ne (by decide)))]
  refine snd_if ha fun h0 => snd_if hb fun h5 => ?_
  rw [both_ari 42 _ _ _ (by decide)]
  have ka := (ha.1 h0).2; have kb := (hb.1 h5).2; have ma := misfit_no h1 (by decide); have mb := misfit_no h3 (by decide)
  exact snd_arith _ (by decide) _ _ (by omega) (by omega)
theorem snd_ari3 {cs : List CD} {row : List VD} {n d : Nat} (v : VD) (a b : TX n) (ih : AllS cs row n d [a, b]) (h : (refTail 4 (S []) (S [47]) [(typedX cs n d a).1, (typedX cs n d b).1]).2 = 0) : Snd (refTail 4 (S []) (S [47]) [(typedX cs n d a).1, (typedX cs n d b).1]).1 (evalX cs row (n + 1) (⟨4, S [], v, S [47]⟩, [a, b])) := by
  have ha := ih a List.mem_cons_self
  have hb := ih b (List.mem_cons_of_mem _ List.mem_cons_self)
  obtain ⟨h1, h3, h2⟩ := need2 (nd := 1) (fun q => absurd (show (4 : Int) = 5 from q.1) (by decide)) (fun q => absurd (show inL (S [47]) nCMP = true from q.2) (by decide)) rfl h
  rw [h2, if_neg (fun q => absurd (show (4 : Int) = 5 from q.1) (by decide)), ev2 cs row n ⟨4, S [], v, S [47]⟩ a b (show (4 : Int) ≠ 1 by decide) (show (4 : Int) ≠ 2 by decide) (lazy_none _ _ _ _ (S_ne (by decide)) (S_ne (by decide)) (S_ne (by decide)) (S_ne (by decide)))]
  refine snd_if ha fun h0 => snd_if hb fun h5 => ?_
  rw [both_ari 47 _ _ _ (by decide)]
  have ka := (ha.1 h0).2; have kb := (hb.1 h5).2; have ma := misfit_no h1 (by decide); have mb := misfit_no h3 (by decide)
  exact snd_arith _ (by decide) _ _ (by omega) (by omega)
theorem snd_ari4 {cs : List CD} {row : List VD} {n d : Nat} (v : VD) (a b : TX n) (ih : AllS cs row n d [a, b]) (h : (refTail 4 (S []) (S [37]) [(typedX cs n d a).1, (typedX cs n d b).1]).2 = 0) : Snd (refTail 4 (S []) (S [37]) [(typedX cs n d a).1, (typedX cs n d b).1]).1 (evalX cs row (n + 1) (⟨4, S [], v, S [37]⟩, [a, b])) := by
  have ha := ih a List.mem_cons_self
  have hb := ih b (List.mem_cons_of_mem _ List.mem_cons_self)
  obtain ⟨h1, h3, h2⟩ := need2 (nd := 1) (fun q => absurd (show (4 : Int) = 5 from q.1) (by decide)) (fun q => absurd (show inL (S [37]) nCMP = true from q.2) (by decide)) rfl h
  rw [h2, if_neg (fun q => absurd (show (4 : Int) = 5 from q.1) (by decide)), ev2 cs row n ⟨4, S [], v, S [37]⟩ a b (show (4 : Int) ≠ 1 by decide) (show (4 : Int) ≠ 2 by decide) (lazy_none _ _ _ _ (S_ne (by decide)) (S_ne (by decide)) (S_ne (by decide)) (S_ne (by decide)))]
  refine snd_if ha fun h0 => snd_if hb fun h5 => ?_
  rw [both_ari 37 _ _ _ (by decide)]
  have ka := (ha.1 h0).2; have kb := (hb.1 h5).2; have ma := misfit_no h1 (by decide); have mb := misfit_no h3 (by decide)
  exact snd_arith _ (by decide) _ _ (by omega) (by omega)
theorem snd_cmp0 {cs : List CD} {row : List VD} {n d : Nat} (v : VD) (a b : TX n) (ih : AllS cs row n d [a, b]) (h : (refTail 4 (S []) (S [61]) [(typedX cs n d a).1, (typedX cs n d b).1]).2 = 0) : Snd (refTail 4 (S []) (S [61]) [(typedX cs n d a).1, (typedX cs n d b).1]).1 (evalX cs row (n + 1) (⟨4, S [], v, S [61]⟩, [a, b])) := by
  have ha := ih a List.mem_cons_self
  have hb := ih b (List.mem_cons_of_mem _ List.mem_cons_self)
  have h2 := refTail_cmp (k := 4) (nm := S []) (op := S [61]) (ts := [(typedX cs n d a).1, (typedX cs n d b).1]) (a := (typedX cs n d a).1) (b := (typedX cs n d b).1) ⟨rfl, show inL (S [61]) nCMP = true by decide⟩ rfl rfl
  rw [h2] at h ⊢
  by_cases hm : (typedX cs n d a).1 ≠ 0 ∧ (typedX cs n d b).1 ≠ 0 ∧ (typedX cs n d a).1 ≠ (typedX cs n d b).1
  · rw [if_pos hm] at h; cases h
  rw [if_neg hm, ev2 cs row n ⟨4, S [], v, S [61]⟩ a b (show (4 : Int) ≠ 1 by decide) (show (4 : Int) ≠ 2 by decide) (lazy_none _ _ _ _ (S_ne (by decide)) (S_ne (by decide)) (S_ne (by decide)) (S_ne (by decide)))]
  refine snd_if ha fun h0 => snd_if hb fun h5 => ?_
  rw [both_cmp _ _ _ _ (by decide)]
  exact snd_compare _ _ _
theorem snd_cmp1 {cs : List CD} {row : List VD} {n d : Nat} (v : VD) (a b : TX n) (ih : AllS cs row n d [a, b]) (h : (refTail 4 (S []) (S [33, 61]) [(typedX cs n d a).1, (typedX cs n d b).1]).2 = 0) : Snd (refTail 4 (S []) (S [33, 61]) [(typedX cs n d a).1, (typedX cs n d b).1]).1 (evalX cs row (n + 1) (⟨4, S [], v, S [33, 61]⟩, [a, b])) := by
  have ha := ih a List.mem_cons_self
  have hb := ih b (List.mem_cons_of_mem _ List.mem_cons_self)
  have h2 := refTail_cmp (k := 4) (nm := S []) (op := S [33, 61]) (ts := [(typedX cs n d a).1, (typedX cs n d b).1]) (a := (typedX cs n d a).1) (b := (typedX cs n d b).1) ⟨rfl, show inL (S [33, 61]) nCMP = true by decide⟩ rfl rfl
  rw [h2] at h ⊢
  by_cases hm : (typedX cs n d a).1 ≠ 0 ∧ (typedX cs n d b).1 ≠ 0 ∧ (typedX cs n d a).1 ≠ (typedX cs n d b).1
  · rw [if_pos hm] at h; cases h
  rw [if_neg hm, ev2 cs row n ⟨4, S [], v, S [33, 61]⟩ a b (show (4 : Int) ≠ 1 by decide) (show (4 : Int) ≠ 2 by decide) (lazy_none _ _ _ _ (S_ne (by decide)) (S_ne (by decide)) (S_ne (by decide)) (S_ne (by decide)))]
  refine snd_if ha fun h0 => snd_if hb fun h5 => ?_
  rw [both_cmp _ _ _ _ (by decide)]
  exact snd_compare _ _ _
theorem snd_cmp2 {cs : List CD} {row : List VD} {n d : Nat} (v : VD) (a b : TX n) (ih : AllS cs row n d [a, b]) (h : (refTail 4 (S []) (S [60]) [(typedX cs n d a).1, (typedX cs n d b).1]).2 = 0) : Snd (refTail 4 (S []) (S [60]) [(typedX cs n d a).1, (typedX cs n d b).1]).1 (evalX cs row (n + 1) (⟨4, S [], v, S [60]⟩, [a, b])) := by
  have ha := ih a List.mem_cons_self
  have hb := ih b (List.mem_cons_of_mem _ List.mem_cons_self)
  have h2 := refTail_cmp (k := 4) (nm := S []) (op := S [60]) (ts := [(typedX cs n d a).1, (typedX cs n d b).1]) (a := (typedX cs n d a).1) (b := (typedX cs n d b).1) ⟨rfl, show inL (S [60]) nCMP = true by decide⟩ rfl rfl
  rw [h2] at h ⊢
  by_cases hm : (typedX cs n d a).1 ≠ 0 ∧ (typedX cs n d b).1 ≠ 0 ∧ (typedX cs n d a).1 ≠ (typedX cs n d b).1
  · rw [if_pos hm] at h; cases h
  rw [if_neg hm, ev2 cs row n ⟨4, S [], v, S [60]⟩ a b (show (4 : Int) ≠ 1 by decide) (show (4 : Int) ≠ 2 by decide) (lazy_none _ _ _ _ (S_ne (by decide)) (S_ne (by decide)) (S_ne (by decide)) (S_ne (by decide)))]
  refine snd_if ha fun h0 => snd_if hb fun h5 => ?_
  rw [both_cmp _ _ _ _ (by decide)]
  exact snd_compare _ _ _
theorem snd_cmp3 {cs : List CD} {row : List VD} {n d : Nat} (v : VD) (a b : TX n) (ih : AllS cs row n d [a, b]) (h : (refTail 4 (S []) (S [60, 61]) [(typedX cs n d a).1, (typedX cs n d b).1]).2 = 0) : Snd (refTail 4 (S []) (S [60, 61]) [(typedX cs n d a).1, (typedX cs n d b).1]).1 (evalX cs row (n + 1) (⟨4, S [], v, S [60, 61]⟩, [a, b])) := by
  have ha := ih a List.mem_cons_self
  have hb := ih b (List.mem_cons_of_mem _ List.mem_cons_self)
  have h2 := refTail_cmp (k := 4) (nm := S []) (op := S [60, 61]) (ts := [(typedX cs n d a).1, (typedX cs n d b).1]) (a := (typedX cs n d a).1) (b := (typedX cs n d b).1) ⟨rfl, show inL (S [60, 61]) nCMP = true by decide⟩ rfl rfl
  rw [h2] at h ⊢
  by_cases hm : (typedX cs n d a).1 ≠ 0 ∧ (typedX cs n d b).1 ≠ 0 ∧ (typedX cs n d a).1 ≠ (typedX cs n d b).1
  · rw [if_pos hm] at h; cases h
  rw [if_neg hm, ev2 cs row n ⟨4, S [], v, S [60, 61]⟩ a b (show (4 : Int) ≠ 1 by decide) (show (4 : Int) ≠ 2 by decide) (lazy_none _ _ _ _ (S_ne (by decide)) (S_ne (by decide)) (S_ne (by decide)) (S_ne (by decide)))]
  refine snd_if ha fun h0 => snd_if hb fun h5 => ?_
  rw [both_cmp _ _ _ _ (by decide)]
  exact snd_compare _ _ _
theorem snd_cmp4 {cs : List CD} {row : List VD} {n d : Nat} (v : VD) (a b : TX n) (ih : AllS cs row n d [a, b]) (h : (refTail 4 (S []) (S [62]) [(typedX cs n d a).1, (typedX cs n d b).1]).2 = 0) : Snd (refTail 4 (S []) (S [62]) [(typedX cs n d a).1, (typedX cs n d b).1]).1 (evalX cs row (n + 1) (⟨4, S [], v, S [62]⟩, [a, b])) := by
  have ha := ih a List.mem_cons_self
  have hb := ih b (List.mem_cons_of_mem _ List.mem_cons_self)
  have h2 := refTail_cmp (k := 4) (nm := S []) (op := S [62]) (ts := [(typedX cs n d a).1, (typedX cs n d b).1]) (a := (typedX cs n d a).1) (b := (typedX cs n d b).1) ⟨rfl, show inL (S [62]) nCMP = true by decide⟩ rfl rfl
  rw [h2] at h ⊢
  by_cases hm : (typedX cs n d a).1 ≠ 0 ∧ (typedX cs n d b).1 ≠ 0 ∧ (typedX cs n d a).1 ≠ (typedX cs n d b).1
  · rw [if_pos hm] at h; cases h
  rw [if_neg hm, ev2 cs row n ⟨4, S [], v, S [62]⟩ a b (show (4 : Int) ≠ 1 by decide) (show (4 : Int) ≠ 2 by decide) (lazy_none _ _ _ _ (S_ne (by decide)) (S_ne (by decide)) (S_ne (by decide)) (S_ne (by decide)))]
  refine snd_if ha fun h0 => snd_if hb fun h5 => ?_
  rw [both_cmp _ _ _ _ (by decide)]
  exact snd_compare _ _ _
theorem snd_cmp5 {cs : List CD} {row : List VD} {n d : Nat} (v : VD) (a b : TX n) (ih : AllS cs row n d [a, b]) (h : (refTail 4 (S []) (S [62, 61]) [(typedX cs n d a).1, (typedX cs n d b).1]).2 = 0) : Snd (refTail 4 (S []) (S [62, 61]) [(typedX cs n d a).1, (typedX cs n d b).1]).1 (evalX cs row (n + 1) (⟨4, S [], v, S [62, 61]⟩, [a, b])) := by
  have ha := ih a List.mem_cons_self
  have hb := ih b (List.mem_cons_of_mem _ List.mem_cons_self)
  have h2 := refTail_cmp (k := 4) (nm := S []) (op := S [62, 61]) (ts := [(typedX cs n d a).1, (typedX cs n d b).1]) (a := (typedX cs n d a).1) (b := (typedX cs n d b).1) ⟨rfl, show inL (S [62, 61]) nCMP = true by decide⟩ rfl rfl
  rw [h2] at h ⊢
  by_cases hm : (typedX cs n d a).1 ≠ 0 ∧ (typedX cs n d b).1 ≠ 0 ∧ (typedX cs n d a).1 ≠ (typedX cs n d b).1
  · rw [if_pos hm] at h; cases h
  rw [if_neg hm, ev2 cs row n ⟨4, S [], v, S [62, 61]⟩ a b (show (4 : Int) ≠ 1 by decide) (show (4 : Int) ≠ 2 by decide) (lazy_none _ _ _ _ (S_ne (by decide)) (S_ne (by decide)) (S_ne (by decide)) (S_ne (by decide)))]
  refine snd_if ha fun h0 => snd_if hb fun h5 => ?_
  rw [both_cmp _ _ _ _ (by decide)]
  exact snd_compare _ _ _
theorem snd_and {cs : List CD} {row : List VD} {n d : Nat} (v : VD) (a b : TX n) (ih : AllS cs row n d [a, b]) (h : (refTail 4 (S []) (wAnd) [(typedX cs n d a).1, (typedX cs n d b).1]).2 = 0) : Snd (refTail 4 (S []) (wAnd) [(typedX cs n d a).1, (typedX cs n d b).1]).1 (evalX cs row (n + 1) (⟨4, S [], v, wAnd⟩, [a, b])) := by
  have ha := ih a List.mem_cons_self
  have hb := ih b (List.mem_cons_of_mem _ List.mem_cons_self)
  obtain ⟨_, _, h2⟩ := need2 (nd := 0) (fun q => absurd (show (4 : Int) = 5 from q.1) (by decide)) (fun q => absurd (show inL (wAnd) nCMP = true from q.2) (by decide)) rfl h
  rw [h2, if_neg (fun q => absurd (show (4 : Int) = 5 from q.1) (by decide)), ev_and]
  refine snd_if ha fun h0 => ?_
  split
  · exact snd_bitIf hb
  · exact Snd.num 0
theorem snd_or {cs : List CD} {row : List VD} {n d : Nat} (v : VD) (a b : TX n) (ih : AllS cs row n d [a, b]) (h : (refTail 4 (S []) (wOr) [(typedX cs n d a).1, (typedX cs n d b).1]).2 = 0) : Snd (refTail 4 (S []) (wOr) [(typedX cs n d a).1, (typedX cs n d b).1]).1 (evalX cs row (n + 1) (⟨4, S [], v, wOr⟩, [a, b])) := by
  have ha := ih a List.mem_cons_self
  have hb := ih b (List.mem_cons_of_mem _ List.mem_cons_self)
  obtain ⟨_, _, h2⟩ := need2 (nd := 0) (fun q => absurd (show (4 : Int) = 5 from q.1) (by decide)) (fun q => absurd (show inL (wOr) nCMP = true from q.2) (by decide)) rfl h
  rw [h2, if_neg (fun q => absurd (show (4 : Int) = 5 from q.1) (by decide)), ev_or]
  refine snd_if ha fun h0 => ?_
  split
  · exact Snd.num 1
  · exact snd_bitIf hb
theorem snd_catX {cs : List CD} {row : List VD} {n d : Nat} (v : VD) (a b : TX n) (ih : AllS cs row n d [a, b]) (h : (refTail 5 (wCat) (S []) [(typedX cs n d a).1, (typedX cs n d b).1]).2 = 0) : Snd (refTail 5 (wCat) (S []) [(typedX cs n d a).1, (typedX cs n d b).1]).1 (evalX cs row (n + 1) (⟨5, wCat, v, S []⟩, [a, b])) := by
  have ha := ih a List.mem_cons_self
  have hb := ih b (List.mem_cons_of_mem _ List.mem_cons_self)
  obtain ⟨h1, h3, h2⟩ := need2 (nd := 2) (fun q => absurd (show inL (wCat) nEI = true from q.2) (by decide)) (fun q => absurd (show (5 : Int) = 4 from q.1) (by decide)) rfl h
  rw [h2, if_pos ⟨rfl, rfl⟩, ev2 cs row n ⟨5, wCat, v, S []⟩ a b (show (5 : Int) ≠ 1 by decide) (show (5 : Int) ≠ 2 by decide) (lazy_none _ _ _ _ (S_ne (by decide)) (S_ne (by decide)) (S_ne (by decide)) (S_ne (by decide)))]
  refine snd_if ha fun h0 => snd_if hb fun h5 => ?_
  rw [both_cat]
  have ka := (ha.1 h0).2; have kb := (hb.1 h5).2; have ma := misfit_no h1 (by decide); have mb := misfit_no h3 (by decide)
  exact snd_cat (ha.1 h0).1 (hb.1 h5).1 (by omega) (by omega)
theorem one_types {a b : Int} (h : (if a ≠ 0 ∧ b ≠ 0 ∧ a ≠ b then ((0, 12) : Int × Int) else if a = 0 then (b, 0) else (a, 0)).2 = 0) :
    (a = (if a ≠ 0 ∧ b ≠ 0 ∧ a ≠ b then ((0, 12) : Int × Int) else if a = 0 then (b, 0) else (a, 0)).1 ∨ a = 0) ∧ (b = (if a ≠ 0 ∧ b ≠ 0 ∧ a ≠ b then ((0, 12) : Int × Int) else if a = 0 then (b, 0) else (a, 0)).1 ∨ b = 0) := by
  by_cases hm : a ≠ 0 ∧ b ≠ 0 ∧ a ≠ b
  · rw [if_pos hm] at h; cases h
  · rw [if_neg hm]
    by_cases h0 : a = 0
    · rw [if_pos h0]; exact ⟨.inr h0, .inl rfl⟩
    · rw [if_neg h0]
      refine ⟨.inl rfl, ?_⟩
      show b = a ∨ b = 0
      by_cases hb : b = 0
      · exact .inr hb
      · left
        by_cases hab : a = b
        · exact hab.symm
        · exact absurd ⟨h0, hb, hab⟩ hm
theorem snd_either {cs : List CD} {row : List VD} {n d : Nat} (v : VD) (a b : TX n) (ih : AllS cs row n d [a, b]) (h : (refTail 5 (wEither) (S []) [(typedX cs n d a).1, (typedX cs n d b).1]).2 = 0) : Snd (refTail 5 (wEither) (S []) [(typedX cs n d a).1, (typedX cs n d b).1]).1 (evalX cs row (n + 1) (⟨5, wEither, v, S []⟩, [a, b])) := by
  have ha := ih a List.mem_cons_self
  have hb := ih b (List.mem_cons_of_mem _ List.mem_cons_self)
  have h2 := refTail_one (k := 5) (nm := wEither) (op := S []) (ts := [(typedX cs n d a).1, (typedX cs n d b).1]) (a := (typedX cs n d a).1) (b := (typedX cs n d b).1) ⟨rfl, show inL wEither nEI = true by decide⟩ rfl rfl
  rw [h2] at h ⊢
  obtain ⟨h3, h4⟩ := one_types h
  rw [ev_either]
  refine snd_if ha fun h0 => ?_
  by_cases q : (evalX cs row n a).1.kind = 0
  · rw [if_pos q]; exact hb.to h4
  · rw [if_neg q]; exact (ha.pair h0).to h3
theorem snd_ifX {cs : List CD} {row : List VD} {n d : Nat} (v : VD) (a b c : TX n) (ih : AllS cs row n d [a, b, c]) (h : (refTail 5 wIf (S []) [(typedX cs n d a).1, (typedX cs n d b).1, (typedX cs n d c).1]).2 = 0) : Snd (refTail 5 wIf (S []) [(typedX cs n d a).1, (typedX cs n d b).1, (typedX cs n d c).1]).1 (evalX cs row (n + 1) (⟨5, wIf, v, S []⟩, [a, b, c])) := by
  have ha := ih a List.mem_cons_self
  have hb := ih b (List.mem_cons_of_mem _ List.mem_cons_self)
  have hc := ih c (List.mem_cons_of_mem _ (List.mem_cons_of_mem _ List.mem_cons_self))
  have h2 := refTail_one (k := 5) (nm := wIf) (op := S []) (ts := [(typedX cs n d a).1, (typedX cs n d b).1, (typedX cs n d c).1]) (a := (typedX cs n d b).1) (b := (typedX cs n d c).1) ⟨rfl, show inL wIf nEI = true by decide⟩ rfl rfl
  rw [h2] at h ⊢
  obtain ⟨h3, h4⟩ := one_types h
  rw [ev_if]
  refine snd_if ha fun h0 => ?_
  by_cases q : (evalX cs row n a).1.tru = true
  · rw [if_pos q]; exact hb.to h3
  · rw [if_neg q]; exact hc.to h4
/-- what it comes to is sound -/
theorem eval_sound {cs : List CD} {row : List VD} (hfit : fitR cs row = true) : ∀ (n d : Nat) (e : TX n), (typedX cs n d e).2 = 0 → Snd (typedX cs n d e).1 (evalX cs row n e)
  | 0, _, e => e.elim
  | n + 1, d, e => fun h => by
    obtain ⟨hf, ht⟩ := typed_inv h
    rcases ht with ⟨hk, ht⟩ | ⟨hk, k, hp, hkl, ht⟩ | ⟨hk1, hk2, hall, ht⟩
    · rw [ht, evalX_succ, if_neg (by omega), if_pos hk]
      refine Snd.ok ?_ (.inr rfl)
      unfold formV at hf
      rw [if_neg (by omega), if_pos hk, Bool.and_eq_true, Bool.and_eq_true, Bool.and_eq_true] at hf
      exact hf.2.2.2
    · rw [ht, evalX_succ, if_pos hk, hp]
      have hlen := fitR_len hfit
      have hkr : k < row.length := by omega
      have hfc := fitR_at hfit k hkl hkr
      rw [Option.getD_some, List.getD_eq_getElem?_getD, List.getElem?_eq_getElem hkr, Option.getD_some]
      unfold fitC at hfc
      rw [Bool.and_eq_true] at hfc
      exact Snd.ok hfc.1 (by simpa using hfc.2)
    · have ih : AllS cs row n (d + 1) e.2 := fun a ha => eval_sound hfit n (d + 1) a (hall a ha)
      rw [ht] at h ⊢
      have hs := shape hf hk1 hk2
      clear ht hall hf hk1 hk2
      obtain ⟨⟨k, nm, v, op⟩, args⟩ := e
      simp only at hs h ih ⊢
      rcases hs with ⟨hk, hl, hn, ho⟩ | ⟨hk, hl, hn, ho⟩ | ⟨hk, ho, hn⟩
      · obtain ⟨a, rfl⟩ := list1 hl
        subst hk hn
        rcases ho with rfl | rfl
        · exact snd_neg v a ih h
        · exact snd_not v a ih h
      · obtain ⟨a, b, rfl⟩ := list2 hl
        subst hk hn
        rcases ho with rfl | rfl | rfl | rfl | rfl | rfl | rfl | rfl | rfl | rfl | rfl | rfl | rfl
        · exact snd_ari0 v a b ih h
        · exact snd_ari1 v a b ih h
        · exact snd_ari2 v a b ih h
        · exact snd_ari3 v a b ih h
        · exact snd_ari4 v a b ih h
        · exact snd_cmp0 v a b ih h
        · exact snd_cmp1 v a b ih h
        · exact snd_cmp2 v a b ih h
        · exact snd_cmp3 v a b ih h
        · exact snd_cmp4 v a b ih h
        · exact snd_cmp5 v a b ih h
        · exact snd_and v a b ih h
        · exact snd_or v a b ih h
      · subst hk ho
        rcases hn with ⟨hl, hn⟩ | ⟨hl, hn⟩ | ⟨hl, rfl⟩
        · obtain ⟨a, rfl⟩ := list1 hl
          rcases hn with rfl | rfl | rfl
          · exact snd_len v a ih h
          · exact snd_abs v a ih h
          · exact snd_isnull v a ih h
        · obtain ⟨a, b, rfl⟩ := list2 hl
          rcases hn with rfl | rfl
          · exact snd_catX v a b ih h
          · exact snd_either v a b ih h
        · obtain ⟨a, b, c, rfl⟩ := list3 hl
          exact snd_ifX v a b c ih h
end Go.Proofs.Ytlkckkagoommaaa
