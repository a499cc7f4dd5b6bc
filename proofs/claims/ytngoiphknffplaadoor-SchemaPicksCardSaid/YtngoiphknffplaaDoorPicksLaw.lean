/- bywashlaw02.SchemaPicks: the walk of the law. For every schema and every names. -/
import Derived.Test.YtngoiphknffplaaDoorSchAwake
import Derived.Test.YtngoiphknffplaaDoorSchSmall
namespace Go.Proofs.YtngoiphknffplaaDoor
open Go.RowKit

/-- the first place of a name from a place on, -1: none -/
def downI (cs : List CD) (s : ByteArray) (j : Nat) : Int := match placeV (cs.drop j) s with | some i => (j : Int) + i | none => -1
theorem downI_end (cs : List CD) (s : ByteArray) (n : Nat) (h : cs.length = n) : downI cs s n = -1 := by
  subst h
  unfold downI
  rw [List.drop_length]
  rfl
theorem downI_zero (cs : List CD) (s : ByteArray) : downI cs s 0 = placeI cs s := by
  unfold downI placeI
  rw [List.drop_zero]
  rcases placeV cs s with _ | k <;> simp
theorem downI_hit {cs : List CD} {s : ByteArray} {j : Nat} (h : j < cs.length) (he : cs[j].name = s) : downI cs s j = j := by
  have : placeV (cs.drop j) s = some 0 := by
    rw [List.drop_eq_getElem_cons h]
    unfold placeV
    rw [List.findIdx?_cons]
    simp [he]
  unfold downI
  rw [this]
  simp
theorem downI_miss {cs : List CD} {s : ByteArray} {j : Nat} (h : j < cs.length) (he : cs[j].name ≠ s) : downI cs s j = downI cs s (j + 1) := by
  have : placeV (cs.drop j) s = (placeV (cs.drop (j + 1)) s).map (· + 1) := by
    rw [List.drop_eq_getElem_cons h]
    unfold placeV
    rw [List.findIdx?_cons]
    simp [he]
  unfold downI
  rw [this]
  rcases placeV (cs.drop (j + 1)) s with _ | k
  · rfl
  · simp only [Option.map_some]
    omega

theorem pickOk_no {cs : List CD} {names : List ByteArray} {k : Nat} (h : k < names.length) (hp : placeV cs names[k] = none) : names.all (pkOk cs) = false :=
  all_no h (by unfold pkOk; rw [hp]; rfl)

set_option maxRecDepth 20000 in
set_option maxHeartbeats 12800000 in
theorem picks_law (A : Option Addr) (cap n : Nat) (cs : List CD) (hn : cs.length = n) (hok : ∀ c ∈ cs, c.Okw) (B : Option Addr) (bcap m : Nat) (names : List ByteArray) (hm : names.length = m) (hvk : ∀ v ∈ names, v.size ≤ 9223372036854775807)
    (w : World) (h : ColsAt w A cs) (hB : RdK sbE w B names) (hl : n ≤ 9223372036854775807) (hl2 : m ≤ 9223372036854775807) (hG : Gs w) :
    Calls Tryd.prog 5 #[.slice A n cap, .slice B m bcap] w fun e w' => e = .returned (.bool true) ∧ Touch [] w w' := by
  have haw := fun w' (h : Touch [] w w') => awake2_any w' (hG.touch0 h)
  have Haw := Lib.hid haw
  clear haw
  have hS := smallW_any A cap n cs hn hok w h hl
  rcases hs : smallS cs with _ | _
  · rw [hs] at hS
    have HS := Lib.hid hS
    clear hS
    go_enter Tryd.func5, Tryd.ntmps5
    go_wp2_with fail
    refine HS.out.mono ?_
    rintro e w1 ⟨rfl, t1⟩
    go_wp2_with fail
    refine (Haw.out _ t1).mono ?_
    rintro e w2 ⟨rfl, t2⟩
    go_wp2
    go_ret
    exact ⟨rfl, t1.trans0 t2⟩
  rw [hs] at hS
  have HS := Lib.hid hS
  clear hS
  by_cases h40 : 40 < m
  · go_enter Tryd.func5, Tryd.ntmps5
    go_wp2_with fail
    refine HS.out.mono ?_
    rintro e w1 ⟨rfl, t1⟩
    go_wp2_with fail
    refine (Haw.out _ t1).mono ?_
    rintro e w2 ⟨rfl, t2⟩
    go_wp2
    go_ret
    exact ⟨rfl, t1.trans0 t2⟩
  have hok' := smallS_ok hs hok
  have hn40 := (smallS_true hs).2
  rw [hn] at hn40
  have Hn := Lib.hid hn; have Hm := Lib.hid hm
  have Hvk := Lib.hid hvk
  have Hok := Lib.hid hok'
  have Hpick := Lib.hid fun w' (t : Touch [] w w') => pick_any A cap n cs hn hok' B bcap m names hm w' (h.touch0 t) (RdK.touch0 hB t) (by omega) (by omega)
  clear hok' hok hs hl hl2 hn hm hvk
  go_enter Tryd.func5, Tryd.ntmps5
  go_wp2_with fail
  refine HS.out.mono ?_
  rintro e w1 ⟨rfl, t1⟩
  go_wp2
  go_loopw [5, 6, 30] (fun v u i wr => ∃ (k : Nat) (A1 A2 : Option Addr) (c1 c2 : Nat), k ≤ m ∧ i = .int .i64 k ∧ v = .slice A1 k c1 ∧ u = .slice A2 k c2 ∧ Hid ((names.take k).all (pkOk cs) = true) ∧ Touch [] w wr ∧
      Made 38 2 cdE (pickC cs (names.take k)) A1 c1 w1 wr ∧ Made 3 1 inE (pickK cs (names.take k)) A2 c2 w1 wr ∧ ∀ b ∈ fpo A1, b ∉ fpo A2) (fun _ _ i _ => m - (intOf i).toNat)
  case atStart => exact ⟨0, none, none, 0, 0, by omega, rfl, rfl, rfl, Lib.hid rfl, t1, Made.nil _ _ _ _, Made.nil _ _ _ _, by simp [fpo]⟩
  case round =>
    obtain ⟨k, A1, A2, c1, c2, hk, rfl, rfl, rfl, Hall, ht, hm1, hm2, hdis⟩ := hrel
    by_cases hlt : k < m
    · have hlt' : k < names.length := by have := Hm.out; omega
      obtain ⟨bd, rfl, d0⟩ := RdKS.at_ (RdK.touch0 hB ht) k hlt'
      have hpno := pickOk_no (cs := cs) hlt'
      have hyes := all_snoc (p := pkOk cs) hlt' Hall.out
      have hs1 : pickC cs (names.take (k + 1)) = pickC cs (names.take k) ++ [pkC cs names[k]] := by unfold pickC; rw [List.take_succ_eq_append_getElem hlt', List.map_append]; rfl
      have hs2 : pickK cs (names.take (k + 1)) = pickK cs (names.take k) ++ [(pkK cs names[k] : Int)] := by unfold pickK; rw [List.take_succ_eq_append_getElem hlt', List.map_append]; rfl
      have hsz := Hvk.out _ (List.getElem_mem hlt')
      obtain ⟨s, hs⟩ : ∃ s, s = names[k] := ⟨_, rfl⟩
      rw [← hs] at d0 hpno hyes hs1 hs2 hsz
      have Hpno := Lib.hid hpno; have Hyes := Lib.hid hyes; have Hs1 := Lib.hid hs1; have Hs2 := Lib.hid hs2
      have Hl1 := Lib.hid (show (pickC cs (names.take k)).length = k by unfold pickC; rw [List.length_map, List.length_take]; omega)
      have Hl2 := Lib.hid (show (pickK cs (names.take k)).length = k by unfold pickK; rw [List.length_map, List.length_take]; omega)
      clear hpno hyes hs1 hs2 hs Hall
      by_cases h100 : 100 < s.size
      · go_wp2_with fail
        refine (Haw.out _ ht).mono ?_
        rintro e w2 ⟨rfl, t2⟩
        go_wp2
        go_ret
        exact ⟨rfl, ht.trans0 t2⟩
      have hn1 : IntKind.i64.wrap ((n : Int) - 1) = (n : Int) - 1 := IntWalk.i64_in _ (by omega)
      go_wp2
      clear hn1
      go_loopw [9, 10] (fun a i wr2 => ∃ j : Nat, j ≤ n ∧ i = .int .i64 ((j : Int) - 1) ∧ a = .int .i64 (downI cs s j) ∧ wr = wr2) (fun _ i _ => (intOf i + 1).toNat)
      case atStart => exact ⟨n, Nat.le_refl _, rfl, by rw [downI_end cs s n Hn.out], rfl⟩
      case round =>
        obtain ⟨j, hj, rfl, rfl, rfl⟩ := hrel
        by_cases hj0 : 0 < j
        · obtain ⟨i, rfl⟩ : ∃ i, j = i + 1 := ⟨j - 1, by omega⟩
          have hil : i < cs.length := by have := Hn.out; omega
          obtain ⟨ad, b, off, rfl, hadd, f0, f1⟩ := (h.touch0 ht).at_ i hil
          have hhit := downI_hit (s := s) hil
          have hmiss := downI_miss (s := s) hil
          obtain ⟨c, hc⟩ : ∃ c, c = cs[i] := ⟨_, rfl⟩
          rw [← hc] at f0 f1 hhit hmiss
          have hbq := bs_beq c.name s
          have hsub : (((i + 1 : Nat) : Int) - 1) = (i : Int) := by omega
          rw [hsub]
          have hi0 : (0 : Int) ≤ (i : Int) := by omega
          have hin : (i : Int) < (n : Int) := by omega
          by_cases he : c.name = s
          · have Hq := Lib.hid (hhit he)
            rw [decide_eq_true he] at hbq
            clear hhit hmiss hc he hsub
            go_wp2
            go_roundw
            case rel => exact ⟨i, by omega, by go_num, by rw [Hq.out], trivial⟩
            case measure => simp [intOf]
          · have Hq := Lib.hid (hmiss he)
            rw [decide_eq_false he] at hbq
            clear hhit hmiss hc he hsub
            go_wp2
            go_roundw
            case rel => exact ⟨i, by omega, by go_num, by rw [Hq.out], trivial⟩
            case measure => simp [intOf]
        · obtain rfl : j = 0 := by omega
          rw [downI_zero]
          have hz : (((0 : Nat) : Int) - 1) = -1 := by omega
          rw [hz]
          rcases hp : placeV cs s with _ | p
          · have e1 : placeI cs s = -1 := by unfold placeI; rw [hp]
            rw [e1]
            have Hf := Lib.hid (Hpno.out hp)
            have Hpk := Lib.hid ((Hpick.out _ ht).mono (R' := fun e w'' => e = .returned (.tuple #[.slice none 0 0, .slice none 0 0, .int .i64 13]) ∧ Touch [] wr w'') fun e w'' hq => by
              unfold PickPost at hq
              rwa [if_pos Hf.out] at hq)
            clear hp e1 hz
            go_wp2_with fail
            refine Hpk.out.mono ?_
            rintro e w2 ⟨rfl, t2⟩
            have T2 := ht.trans0 t2
            go_wp2_with fail
            refine (Haw.out _ T2).mono ?_
            rintro e w3 ⟨rfl, t3⟩
            go_wp2
            go_ret
            exact ⟨rfl, T2.trans0 t3⟩
          · have e1 : placeI cs s = (p : Int) := by unfold placeI; rw [hp]
            rw [e1]
            have hpl := placeV_lt hp
            have hpn : p < n := by have := Hn.out; omega
            have hpk : pkK cs s = p := by unfold pkK; rw [hp]; rfl
            have hpc : pkC cs s = cs[p] := by unfold pkC; rw [hpk, getD_lt _ _ hpl]
            have Ha := Lib.hid (Hyes.out (by unfold pkOk; rw [hp]; rfl))
            rw [hpc] at Hs1
            rw [hpk] at Hs2
            obtain ⟨ad, b, off, rfl, hadd, f0, f1⟩ := (h.touch0 ht).at_ p hpl
            obtain ⟨c, hc⟩ : ∃ c, c = cs[p] := ⟨_, rfl⟩
            rw [← hc] at f0 f1 Hs1
            have ta := (Touch.refl [] wr).alloc (.cells #[.string c.name, .int .i64 c.typ] 38)
            have hp0 : (0 : Int) ≤ (p : Int) := by omega
            have hpnI : (p : Int) < (n : Int) := by omega
            clear hc hp e1 hz hpk hpc
            go_wp2_with (at_builtin; refine stop ?_)
            refine go ?_
            refine wpList_appK rfl (.tmp 77) (.tmp 82) 24 rfl 38 _ 2 24 info_col Tryd.underlying24 rfl (by omega) cdE_length cdE_one A1 k c1 _ Hl1.out rfl (hm1.own.touch0 ta)
              (some ⟨wr.heap.size, 0, none⟩) 1 1 [c] rfl rfl (RdK.one (enc := cdE) wr 38 c #[.string c.name, .int .i64 c.typ] rfl) (by omega) (by omega) ?_
            intro A3 c3 w3 hown3 ht3 hf3
            have hn1 := (hm1.touch0 ta).step hown3 ht3 hf3
            have hd2 : ∀ b ∈ fpo A2, b ∉ fpo A1 := fun b hb hb1 => hdis b hb1 hb
            have hn2 : Made 3 1 inE (pickK cs (names.take k)) A2 c2 w1 w3 := ⟨(hm2.touch0 ta).own.touch ht3 hd2, hn1.t, hm2.f⟩
            have tb := (Touch.refl [] w3).alloc (.cells #[.int .i64 (p : Int)] 3)
            have hlt2 := (hm2.touch0 ta).own.lt
            have hdis3 : ∀ b ∈ fpo A3, b ∉ fpo A2 := fun b hb hb2 => by
              rcases hf3 b hb with e | e
              · exact hdis b e hb2
              · have := hlt2 b hb2; omega
            go_wp2_with (at_builtin; refine stop ?_)
            refine go ?_
            refine wpList_appK rfl (.tmp 84) (.tmp 86) 36 rfl 3 _ 1 8 info_int Tryd.underlying36 rfl (by omega) inE_length inE_one A2 k c2 _ Hl2.out rfl (hn2.own.touch0 tb)
              (some ⟨w3.heap.size, 0, none⟩) 1 1 [(p : Int)] rfl rfl (RdK.one (enc := inE) w3 3 (p : Int) #[.int .i64 (p : Int)] rfl) (by omega) (by omega) ?_
            intro A4 c4 w4 hown4 ht4 hf4
            have hq2 := (hn2.touch0 tb).step hown4 ht4 hf4
            have hq1 : Made 38 2 cdE (pickC cs (names.take k) ++ [c]) A3 c3 w1 w4 := ⟨(hn1.touch0 tb).own.touch ht4 hdis3, hq2.t, hn1.f⟩
            have hlt3 := (hn1.touch0 tb).own.lt
            go_wp2
            go_roundw
            case rel => exact ⟨k + 1, A3, A4, c3, c4, by omega, by go_num, rfl, rfl, Ha, t1.trans0 hq1.t, by rw [Hs1.out]; exact hq1, by rw [Hs2.out]; exact hq2, fun b hb hb4 => by
              rcases hf4 b hb4 with e | e
              · exact hdis3 b hb e
              · have := hlt3 b hb; omega⟩
            case measure => simp [intOf]; omega
    · obtain rfl : k = m := by omega
      have hfull : names.take k = names := List.take_of_length_le (by rw [Hm.out]; exact Nat.le_refl _)
      rw [hfull] at hm1 hm2 Hall
      have hlen : (pickC cs names).length = k := by unfold pickC; rw [List.length_map, Hm.out]
      have hokp := pickC_ok Hok.out names Hall.out
      have Href := Lib.hid fun w' (r : ColsAt w' A1 (pickC cs names)) => ref_any A1 c1 k (pickC cs names) hlen w' r (by omega)
      have Hrc := Lib.hid fun A3 c3 w' (r : ColsAt w' A3 (pickC cs names)) => refCheck_any A3 c3 k (pickC cs names) hlen hokp w' r (by omega)
      by_cases hc : checkV (pickC cs names) = 0
      · have Hpk := Lib.hid ((Hpick.out _ ht).mono (R' := fun e w'' => ∃ A5 c5 A6 c6, e = .returned (.tuple #[.slice A5 k c5, .slice A6 k c6, .int .i64 0]) ∧ Made 38 2 cdE (pickC cs names) A5 c5 wr w'' ∧ Made 3 1 inE (pickK cs names) A6 c6 wr w'') fun e w'' hq => by
          unfold PickPost at hq
          rw [if_neg (by rw [Hall.out]; simp), if_pos hc, Hm.out] at hq
          exact hq)
        have Heq := Lib.hid fun A3 A4 c3 c4 w' (r1 : ColsAt w' A3 (pickC cs names)) (r2 : ColsAt w' A4 (pickC cs names)) => schEqual_any A3 A4 c3 c4 k k (pickC cs names) (pickC cs names) hlen hlen w' r1 r2 (by omega) (by omega)
        rw [(eqCs_iff _ _).2 rfl] at Heq
        rw [hc] at Hrc
        have hlk : (pickK cs names).length = k := by unfold pickK; rw [List.length_map, Hm.out]
        have Hlk := Lib.hid hlk
        have hkk : ((k : Int) == (k : Int)) = true := by simp
        have hkn : ((k : Int) != (k : Int)) = false := by simp
        clear hfull hlen hokp hc Hall Hpick hlk
        go_wp2_with fail
        refine Hpk.out.mono ?_
        rintro e w2 ⟨A5, c5, A6, c6, rfl, m5, m6⟩
        have T2 := ht.trans0 m5.t
        have n1 := hm1.touch0 m5.t
        have n2 := hm2.touch0 m5.t
        go_wp2_with fail
        refine (Href.out _ n1.own.rd).mono ?_
        rintro e w3 ⟨A7, c7, rfl, m7⟩
        have T3 := T2.trans0 m7.t
        have n1' := n1.touch0 m7.t
        have n2' := n2.touch0 m7.t
        have m5' := m5.touch0 m7.t
        have m6' := m6.touch0 m7.t
        go_wp2_with fail
        refine (Hrc.out A7 c7 _ m7.own.rd).mono ?_
        rintro e w4 ⟨rfl, t4⟩
        have T4 := T3.trans0 t4
        have n1'' := n1'.touch0 t4
        have n2'' := n2'.touch0 t4
        have m5'' := m5'.touch0 t4
        have m6'' := m6'.touch0 t4
        go_wp2_with fail
        refine (Heq.out A5 A1 c5 c1 _ m5''.own.rd n1''.own.rd).mono ?_
        rintro e w5 ⟨rfl, t5⟩
        have T5 := T4.trans0 t5
        have m8 := m6''.touch0 t5
        have n8 := n2''.touch0 t5
        go_wp2
        clear hkk hkn n1 n2 n1' n2' m5' m6' n1'' n2'' m5'' m6'' hm1 hm2 m5 m6 m7
        go_loopw [134] (fun i wr2 => ∃ j : Nat, j ≤ k ∧ i = .int .i64 j ∧ Touch [] w5 wr2) (fun i _ => k - (intOf i).toNat)
        case atStart => exact ⟨0, by omega, rfl, Touch.refl _ _⟩
        case round =>
          obtain ⟨j, hj, rfl, tj⟩ := hrel
          have Tj := T5.trans0 tj
          by_cases hltj : j < k
          · obtain ⟨b1, rfl, d1⟩ := RdKI.at_ (m8.touch0 tj).own.rd j (by rw [Hlk.out]; exact hltj)
            obtain ⟨b2, rfl, d2⟩ := RdKI.at_ (n8.touch0 tj).own.rd j (by rw [Hlk.out]; exact hltj)
            obtain ⟨q, hq⟩ : ∃ q, q = (pickK cs names)[j]'(by rw [Hlk.out]; exact hltj) := ⟨_, rfl⟩
            rw [← hq] at d1 d2
            have g1 := TW.cell d1
            have g2 := TW.cell d2
            have hkI0 : (0 : Int) ≤ (j : Int) := by omega
            have hkI : (j : Int) < (k : Int) := by omega
            have hnn : (q != q) = false := by simp
            clear hq d1 d2
            go_wp2
            refine wp_region_tw _ (Touch.refl _ _) (by kernel_rfl) (by kernel_rfl) ?_
            repeat (go_big_quiet_step (fail))
            refine wpQuiet_nil ?_
            rintro _ ⟨x2, rfl⟩
            go_wp2
            go_roundw
            case rel => exact ⟨j + 1, by omega, by go_num, tj.trans0 x2.t⟩
            case measure => simp [intOf]; omega
          · obtain rfl : j = k := by omega
            go_wp2_with fail
            refine (Haw.out _ Tj).mono ?_
            rintro e w6 ⟨rfl, t6⟩
            go_wp2
            go_ret
            exact ⟨rfl, Tj.trans0 t6⟩
      · have hcs := checkV_cases (pickC cs names)
        obtain ⟨E, hE⟩ : ∃ E, E = checkV (pickC cs names) := ⟨_, rfl⟩
        have Hpk := Lib.hid ((Hpick.out _ ht).mono (R' := fun e w'' => e = .returned (.tuple #[.slice none 0 0, .slice none 0 0, .int .i64 E]) ∧ Touch [] wr w'') fun e w'' hq => by
          unfold PickPost at hq
          rw [if_neg (by rw [Hall.out]; simp), if_neg hc, ← hE] at hq
          exact hq)
        rw [← hE] at Hrc hc hcs
        have hq : (E == 0) = false := by rw [beq_eq_false_iff_ne]; exact hc
        have hq' : (E != 0) = true := by rw [bne, hq]; rfl
        have hEE : (E == E) = true := by simp
        clear hfull hlen hokp hE Hall Hpick
        go_wp2_with fail
        refine Hpk.out.mono ?_
        rintro e w2 ⟨rfl, t2⟩
        have T2 := ht.trans0 t2
        have n1 := hm1.touch0 t2
        go_wp2_with fail
        refine (Href.out _ n1.own.rd).mono ?_
        rintro e w3 ⟨A7, c7, rfl, m7⟩
        have T3 := T2.trans0 m7.t
        go_wp2_with fail
        refine (Hrc.out A7 c7 _ m7.own.rd).mono ?_
        rintro e w4 ⟨rfl, t4⟩
        have T4 := T3.trans0 t4
        go_wp2_with fail
        refine (Haw.out _ T4).mono ?_
        rintro e w5 ⟨rfl, t5⟩
        go_wp2
        go_ret
        exact ⟨rfl, T4.trans0 t5⟩
end Go.Proofs.YtngoiphknffplaaDoor
