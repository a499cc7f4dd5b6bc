/- bywashlaw02.SchemaRows: the walk of the law. For every two rows. -/
import Derived.Test.YtngoiphknffplaaDoorSchAwake
import Derived.Test.YtngoiphknffplaaDoorSchSmall
import Derived.Test.YtngoiphknffplaaDoorSchCmpRows
namespace Go.Proofs.YtngoiphknffplaaDoor
open Go.RowKit

theorem info_vval : (Tryd.prog.info? 56).map (fun i => (i.zero, i.size, i.bytes)) = some (some (.agg #[.int .i64 0, .int .i64 0, .string ⟨#[]⟩]), 3, 32) := by kernel_rfl

set_option maxRecDepth 20000 in
set_option maxHeartbeats 6400000 in
theorem rows_law (A : Option Addr) (cap n : Nat) (ls : List VD) (hn : ls.length = n) (hok : ∀ c ∈ ls, c.Ok 9223372036854775807) (B : Option Addr) (bcap m : Nat) (rs : List VD) (hm : rs.length = m) (hvk : ∀ v ∈ rs, v.Ok 9223372036854775807)
    (w : World) (h : ValsAt w A ls) (hv : ValsAt w B rs) (hl : n ≤ 9223372036854775807) (hl2 : m ≤ 9223372036854775807) (hG : Gs w) :
    Calls Tryd.prog 9 #[.slice A n cap, .slice B m bcap] w fun e w' => e = .returned (.bool true) ∧ Touch [] w w' := by
  have haw := fun w' (h : Touch [] w w') => awake2_any w' (hG.touch0 h)
  have Haw := Lib.hid haw
  clear haw
  have hS := smallRowW_any A cap n ls hn hok w h hl
  have HR := Lib.hid fun w' (t : Touch [] w w') => smallRowW_any B bcap m rs hm hvk w' (hv.touch0 t) hl2
  rcases hs : smallR ls with _ | _
  · rw [hs] at hS
    have HS := Lib.hid hS
    clear hS
    go_enter Tryd.func9, Tryd.ntmps9
    go_wp2_with fail
    refine HS.out.mono ?_
    rintro e w1 ⟨rfl, t1⟩
    go_wp2_with fail
    refine (Haw.out _ t1).mono ?_
    rintro e w2 ⟨rfl, t2⟩
    go_wp2
    go_ret
    exact ⟨rfl, t1.trans0 t2⟩
  rw [hs] at hS
  have HS := Lib.hid hS
  clear hS
  rcases hr : smallR rs with _ | _
  · rw [hr] at HR
    go_enter Tryd.func9, Tryd.ntmps9
    go_wp2_with fail
    refine HS.out.mono ?_
    rintro e w1 ⟨rfl, t1⟩
    go_wp2_with fail
    refine (HR.out _ t1).mono ?_
    rintro e w2 ⟨rfl, t2⟩
    have T2 := t1.trans0 t2
    go_wp2_with fail
    refine (Haw.out _ T2).mono ?_
    rintro e w3 ⟨rfl, t3⟩
    go_wp2
    go_ret
    exact ⟨rfl, T2.trans0 t3⟩
  rw [hr] at HR
  have hok' := smallR_ok hs hok
  have hvk' := smallR_ok hr hvk
  have hn40 := (smallR_true hs).2
  have hm40 := (smallR_true hr).2
  rw [hn] at hn40
  rw [hm] at hm40
  have hlen : (ls ++ rs).length = n + m := by rw [List.length_append, hn, hm]
  have hokb : ∀ c ∈ ls ++ rs, c.Ok 140737000000000 := fun c hc => by
    rcases List.mem_append.1 hc with e | e
    · exact hok' c e
    · exact hvk' c e
  have Hn := Lib.hid hn; have Hm := Lib.hid hm
  have Hlen := Lib.hid hlen; have Hokb := Lib.hid hokb
  have Hc := Lib.hid fun w' (t : Touch [] w w') => cmpRows_any A B cap bcap n m ls rs hn hm w' (h.touch0 t) (hv.touch0 t) (by omega) (by omega)
  have Hc2 := Lib.hid fun w' (t : Touch [] w w') => cmpRows_any B A bcap cap m n rs ls hm hn w' (hv.touch0 t) (h.touch0 t) (by omega) (by omega)
  have Hrl := Lib.hid fun w' (t : Touch [] w w') => refRow_any A cap n ls hn w' (h.touch0 t) (by omega)
  have Hrr := Lib.hid fun w' (t : Touch [] w w') => refRow_any B bcap m rs hm w' (hv.touch0 t) (by omega)
  have Hrc := Lib.hid fun A1 A2 c1 c2 w' (r1 : ValsAt w' A1 ls) (r2 : ValsAt w' A2 rs) => refCmpRows_any A1 A2 c1 c2 n m ls rs hn hm hok' hvk' w' r1 r2 (by omega) (by omega)
  have hqb := cmpRV_b ls rs
  rw [cmpRV_neg ls rs] at Hc2
  obtain ⟨q, hq⟩ : ∃ q, q = cmpRV ls rs := ⟨_, rfl⟩
  rw [← hq] at Hc Hc2 Hrc hqb
  obtain ⟨hq1, hq2⟩ := hqb
  clear hokb hok' hvk' hok hvk hs hr hq hlen hn hm hl hl2
  go_enter Tryd.func9, Tryd.ntmps9
  go_wp2_with fail
  refine HS.out.mono ?_
  rintro e w1 ⟨rfl, t1⟩
  go_wp2_with fail
  refine (HR.out _ t1).mono ?_
  rintro e w2 ⟨rfl, t2⟩
  have T2 := t1.trans0 t2
  go_wp2_with (at_builtin; refine stop ?_)
  refine go ?_
  have ta := (Touch.refl [] w2).alloc (.cells #[] 56)
  have m0 : Made 56 3 vdE [] (some ⟨w2.heap.size, 0, none⟩) 0 w2 (w2.alloc (.cells #[] 56)) := ⟨OwnK.empty_new _ _ _ _, ta, by simp [fpo]⟩
  refine wpList_appK rfl (.tmp 17) (.tmp 18) 47 rfl 56 _ 3 32 info_vval Tryd.underlying47 rfl (by omega) vdE_length vdE_one (some ⟨w2.heap.size, 0, none⟩) 0 0 [] rfl rfl m0.own
    A n cap ls Hn.out rfl (h.touch0 (T2.trans0 ta)) (by omega) (by omega) ?_
  intro A3 c3 w3 hown3 ht3 hf3
  have m3 := m0.step hown3 ht3 hf3
  rw [List.nil_append] at m3
  rw [Nat.zero_add]
  go_wp2_with (at_builtin; refine stop ?_)
  refine go ?_
  refine wpList_appK rfl (.tmp 19) (.tmp 20) 47 rfl 56 _ 3 32 info_vval Tryd.underlying47 rfl (by omega) vdE_length vdE_one A3 n c3 ls Hn.out rfl m3.own
    B m bcap rs Hm.out rfl (hv.touch0 (T2.trans0 m3.t)) (by omega) (by omega) ?_
  intro A4 c4 w4 hown4 ht4 hf4
  have m4 := m3.step hown4 ht4 hf4
  have T4 := T2.trans0 m4.t
  clear hown3 hown4 ht3 ht4 hf3 hf4 m3 m0 ta
  go_wp2
  go_loopw [23] (fun i wr => ∃ k : Nat, k ≤ n + m ∧ i = .int .i64 k ∧ Touch [] w4 wr) (fun i _ => n + m - (intOf i).toNat)
  case atStart => exact ⟨0, by omega, rfl, Touch.refl _ _⟩
  case round =>
    obtain ⟨k, hk, rfl, ht⟩ := hrel
    have T := T4.trans0 ht
    by_cases hlt : k < n + m
    · have hlt' : k < (ls ++ rs).length := by rw [Hlen.out]; exact hlt
      obtain ⟨ad, b, off, rfl, hadd, c0, c1, c2⟩ := ValsAt.at_ (m4.touch0 ht).own.rd k hlt'
      have ho1 := Hokb.out _ (List.getElem_mem hlt')
      obtain ⟨x, hx⟩ : ∃ x, x = (ls ++ rs)[k] := ⟨_, rfl⟩
      rw [← hx] at c0 c1 c2 ho1
      obtain ⟨k1, n1, s1⟩ := x
      simp only at c0 c1 c2
      have hright := fun w' => right_any ⟨k1, n1, s1⟩ ho1.t w'
      simp only [VD.val] at hright
      rcases hb : VD.right ⟨k1, n1, s1⟩ with _ | _
      · rw [hb] at hright
        have Hright := Lib.hid hright
        clear hright hb hx ho1
        have tb := T.alloc (.cells #[.int .i64 k1, .int .i64 n1, .string s1] 56)
        go_wp2_with fail
        refine (Hright.out _).mono ?_
        rintro e w5 ⟨rfl, t5⟩
        go_wp2_with fail
        refine (Haw.out _ (tb.trans0 t5)).mono ?_
        rintro e w6 ⟨rfl, t6⟩
        go_wp2
        go_ret
        exact ⟨rfl, (tb.trans0 t5).trans0 t6⟩
      · rw [hb] at hright
        have Hright := Lib.hid hright
        clear hright hb hx ho1
        have tb := ht.alloc (.cells #[.int .i64 k1, .int .i64 n1, .string s1] 56)
        go_wp2_with fail
        refine (Hright.out _).mono ?_
        rintro e w5 ⟨rfl, t5⟩
        go_wp2
        go_roundw
        case rel => exact ⟨k + 1, by omega, by go_num, tb.trans0 t5⟩
        case measure => simp [intOf]; omega
    · obtain rfl : k = n + m := by omega
      have hqq : (q == q) = true := by simp
      have hnn : (-q == -q) = true := by simp
      have hw : IntKind.i64.wrap (-q) = -q := IntWalk.i64_in _ (by omega)
      go_wp2_with fail
      refine (Hc.out _ T).mono ?_
      rintro e w5 ⟨rfl, t5⟩
      have T5 := T.trans0 t5
      go_wp2_with fail
      refine (Hrl.out _ T5).mono ?_
      rintro e w6 ⟨A6, c6, rfl, m6⟩
      have T6 := T5.trans0 m6.t
      go_wp2_with fail
      refine (Hrr.out _ T6).mono ?_
      rintro e w7 ⟨A7, c7, rfl, m7⟩
      have T7 := T6.trans0 m7.t
      have m6' := m6.touch0 m7.t
      go_wp2_with fail
      refine (Hrc.out A6 A7 c6 c7 _ m6'.own.rd m7.own.rd).mono ?_
      rintro e w8 ⟨rfl, t8⟩
      have T8 := T7.trans0 t8
      go_wp2_with fail
      refine (Hc2.out _ T8).mono ?_
      rintro e w9 ⟨rfl, t9⟩
      have T9 := T8.trans0 t9
      go_wp2_with fail
      refine (Haw.out _ T9).mono ?_
      rintro e w10 ⟨rfl, t10⟩
      go_wp2
      go_ret
      exact ⟨rfl, T9.trans0 t10⟩
end Go.Proofs.YtngoiphknffplaaDoor
