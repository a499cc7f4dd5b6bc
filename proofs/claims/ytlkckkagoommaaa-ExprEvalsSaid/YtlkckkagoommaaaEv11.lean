/- Part 11 of the texts of this proof, one behind the other; each begins with its own sentence. No condition beyond those that its theorems state. -/
import Derived.Test.YtlkckkagoommaaaEv10
import Derived.Deep.DrawnRows
/- bywashref04.find, Type: an expression's type and error, as the document's answer has them. For every expression and schema. -/
namespace Go.Proofs.Ytlkckkagoommaaa
open Go.RowKit
attribute [local go_sem ↓] Go.wp_at_zero Go.wp_at_succ

set_option maxRecDepth 20000 in
set_option maxHeartbeats 800000 in
theorem refFind_any (A : Option Addr) (cap n : Nat) (cs : List CD) (hn : cs.length = n) (s : ByteArray) (w : World) (h : ColsAt w A cs) (hl : n ≤ 140737000000000) :
    Calls Try.prog 59 #[.slice A n cap, .string s] w fun e w' => e = .returned (.int .i64 ((colT cs s).getD 0)) ∧ w' = w := by
  subst hn
  go_enter Try.func59, Try.ntmps59
  go_wp2
  go_loop [5] (fun i => ∃ k : Nat, k ≤ cs.length ∧ i = .int .i64 k ∧ Hid (∀ j (_ : j < k) (hl : j < cs.length), cs[j].name ≠ s)) (fun i => cs.length - (intOf i).toNat)
  case atStart => exact ⟨0, by omega, rfl, Lib.hid (fun j hj => by omega)⟩
  case round =>
    obtain ⟨k, hk, rfl, Hno⟩ := hrel
    by_cases hlt : k < cs.length
    · obtain ⟨ad, b, off, rfl, hadd, c0, c1⟩ := h.at_ k hlt
      have Hyes := Lib.hid (fun (hcs : cs[k].name = s) => placeV_some hlt hcs (fun j hj => Hno.out j hj (by omega)))
      have Hco := Lib.hid (show ∀ j (_ : j < k + 1) (hl : j < cs.length), cs[k].name ≠ s → cs[j].name ≠ s from fun j hj hl hne => by
        by_cases e : j = k
        · subst e; exact hne
        · exact Hno.out j (by omega) hl)
      have Hct := Lib.hid (show placeV cs s = some k → (colT cs s).getD 0 = cs[k].typ from fun hp => by unfold colT; rw [hp]; simp only; rw [List.getElem?_eq_getElem hlt]; rfl)
      obtain ⟨c, hce⟩ : ∃ c, c = cs[k] := ⟨_, rfl⟩
      rw [← hce] at c0 c1 Hyes Hco Hct
      have hbq := bs_beq c.name s
      have hkI : (k : Int) < (cs.length : Int) := by omega
      clear hce
      by_cases he : c.name = s
      · have Hf := Lib.hid (Hct.out (Hyes.out he))
        rw [decide_eq_true he] at hbq
        clear he Hyes Hct Hco
        go_wp2
        go_ret
        exact ⟨ret_int Hf.out.symm, rfl⟩
      · have Hf := Lib.hid (fun j (hj : j < k + 1) (hl : j < cs.length) => Hco.out j hj hl he)
        rw [decide_eq_false he] at hbq
        clear he Hyes Hct Hco
        go_wp2
        go_round
        case rel => exact ⟨k + 1, by omega, by go_num, Hf⟩
        case measure => simp [intOf]; omega
    · obtain rfl : k = cs.length := by omega
      have Hf := Lib.hid (show (colT cs s).getD 0 = 0 by unfold colT; rw [placeV_none (fun j hj => Hno.out j hj hj)]; rfl)
      go_wp2
      go_ret
      exact ⟨ret_int Hf.out.symm, rfl⟩

/-- what Type promises -/
def RefTypeSaid (n : Nat) : Prop := ∀ (e : TX n) (x : XC) (A : Option Addr) (cap m : Nat) (cs : List CD) (hm : cs.length = m) (d : Nat) (w : World), ExP xcR anyB n w x e → ColsAt w A cs → (∀ c ∈ cs, c.typ ≠ 0) → m ≤ 140737000000000 → sizeX n e ≤ 1000000 → allX (fun q => q.v.text.size ≤ 140737000000000) n e → d ≤ 1000000000 →
    Calls Try.prog 37 #[x.valR, .slice A m cap, .int .i64 d] w fun r w' => r = .returned (.tuple #[.int .i64 (typedX cs n d e).1, .int .i64 (typedX cs n d e).2]) ∧ Touch [] w w'

theorem ints_cells {w : World} {B : Option Addr} {l : List Int} (h : IntsAt w B l) (hB : B = none ∧ l = [] ∨ ∃ g, B = some ⟨g, 0, none⟩) (h0 : 0 < l.length) : ∃ g, B = some ⟨g, 0, none⟩ ∧ ∀ i (hi : i < l.length), w.cell? ⟨g, i, none⟩ = some (.int .i64 l[i]) := by
  rcases hB with ⟨_, rfl⟩ | ⟨g, rfl⟩
  · simp at h0
  · refine ⟨g, rfl, fun i hi => ?_⟩
    obtain ⟨ad, e, hc⟩ := h.at_ i hi
    cases e
    have e0 : (⟨g, 0, none⟩ : Addr).add i = ⟨g, i, none⟩ := by unfold Addr.add; split <;> simp_all
    rwa [e0] at hc
set_option maxRecDepth 100000 in
set_option maxHeartbeats 12800000 in
theorem refType_any (n : Nat) : RefTypeSaid n := by
  induction n with
  | zero => intro e; exact e.elim
  | succ n ih =>
    intro e x A cap mm cs hm d w hx hcs hty hmb hs hall hd
    subst hm
    have Hst := Lib.hid (typedX_succ cs n d e)
    obtain ⟨nd, args⟩ := e
    obtain ⟨h1, h2, h3⟩ := hx.args
    obtain ⟨ha1, ha2⟩ := hall
    have hsum : sumX n args ≤ 1000000 := by have hs' : 1 + sumX n args ≤ 1000000 := hs; omega
    have hlen := len_le_sum n args
    dsimp only at h1 h2 h3 ha1 ha2
    subst h1
    have Hform := Lib.hid fun w' => refForm_any x ha1 w'
    have Hfind := Lib.hid fun w' (t : Touch [] w w') => refFind_any A cap cs.length cs rfl x.nd.name w' (hcs.touch0 t) hmb
    obtain ⟨⟨k, nm, ⟨vk, vn, vt⟩, op⟩, XA, m, c⟩ := x
    dsimp only at h2 h3 ha1
    simp only [XC.valR] at Hform ⊢
    simp only at Hst Hfind
    rw [formR_eq] at Hform
    have t0 := (Touch.refl [] w).alloc (.cells #[.int .i64 k, .string nm, .string op, .int .i64 vk, .int .i64 vn, .string vt, .slice XA m c] 61)
    have hb := heap_alloc_new w (.cells #[.int .i64 k, .string nm, .string op, .int .i64 vk, .int .i64 vn, .string vt, .slice XA m c] 61)
    have Hb := Lib.hid hb
    obtain ⟨res, hres⟩ : ∃ res, res = typedX cs (n + 1) d ((⟨k, nm, ⟨vk, vn, vt⟩, op⟩, args) : TX (n + 1)) := ⟨_, rfl⟩
    rw [← hres] at Hst ⊢
    rw [← h2] at Hst
    rw [← h2] at hlen
    have H2 := Lib.hid h2
    clear hb hx hs hres h2
    by_cases hd32 : 32 < d
    · have Hf := Lib.hid (show res = (0, 52) by rw [Hst.out, if_pos hd32])
      have hdI : (32 : Int) < (d : Int) := by omega
      go_enter Try.func37, Try.ntmps37
      go_wp2_with fail
      go_ret2
      exact ⟨by rw [Hf.out]; rfl, t0⟩
    have hdI : ¬ (32 : Int) < (d : Int) := by omega
    obtain ⟨b0, b1, b2, b3, b4, b5, b6, _⟩ := blk7 Hb.out
    rcases hfo : formV ⟨k, nm, ⟨vk, vn, vt⟩, op⟩ m with _ | _
    · have Hf := Lib.hid (show res = (0, 20) by rw [Hst.out, if_neg hd32, if_pos hfo])
      rw [hfo] at Hform
      clear hfo
      go_enter Try.func37, Try.ntmps37
      go_wp2_with fail
      refine (Hform.out _).mono ?_
      rintro e w1 ⟨rfl, t1⟩
      go_wp2_with fail
      go_ret2
      exact ⟨by rw [Hf.out]; rfl, t0.trans0 t1⟩
    rw [hfo] at Hform
    by_cases hk2 : k = 2
    · have Hf := Lib.hid (show res = (vk, 0) by rw [Hst.out, if_neg hd32, if_neg (by rw [hfo]; simp), if_pos hk2])
      have q2 : (k == 2) = true := by simpa using hk2
      clear hfo hk2
      go_enter Try.func37, Try.ntmps37
      go_wp2_with fail
      clear b0 b1 b2 b3 b4 b5 b6
      refine (Hform.out _).mono ?_
      rintro e w1 ⟨rfl, t1⟩
      have hb1 := t1.blk Hb.out (by simp)
      obtain ⟨c0, c1, c2, c3, c4, c5, c6, _⟩ := blk7 hb1
      go_wp2_with fail
      go_ret2
      exact ⟨by rw [Hf.out]; rfl, t0.trans0 t1⟩
    have q2 : (k == 2) = false := by simpa using hk2
    by_cases hk1 : k = 1
    · rcases hp : colT cs nm with _ | q
      · have Hf := Lib.hid (show res = (0, 13) by rw [Hst.out, if_neg hd32, if_neg (by rw [hfo]; simp), if_neg hk2, if_pos hk1]; rw [hp])
        rw [hp] at Hfind
        have q1 : (k == 1) = true := by simpa using hk1
        clear hfo hp hk2 hk1
        go_enter Try.func37, Try.ntmps37
        go_wp2_with fail
        clear b0 b1 b2 b3 b4 b5 b6
        refine (Hform.out _).mono ?_
        rintro e w1 ⟨rfl, t1⟩
        have hb1 := t1.blk Hb.out (by simp)
        obtain ⟨c0, c1, c2, c3, c4, c5, c6, _⟩ := blk7 hb1
        go_wp2_with fail
        refine (Hfind.out _ (t0.trans0 t1)).mono ?_
        rintro e w2 ⟨rfl, rfl⟩
        go_wp2_with fail
        go_ret2
        exact ⟨by rw [Hf.out]; rfl, t0.trans0 t1⟩
      · have hq0 : q ≠ 0 := by
          unfold colT at hp
          rcases hpl : placeV cs nm with _ | j
          · rw [hpl] at hp; cases hp
          · rw [hpl] at hp
            simp only at hp
            rw [List.getElem?_eq_getElem (placeV_lt hpl)] at hp
            cases hp
            exact hty _ (List.getElem_mem _)
        have Hf := Lib.hid (show res = (q, 0) by rw [Hst.out, if_neg hd32, if_neg (by rw [hfo]; simp), if_neg hk2, if_pos hk1]; rw [hp])
        rw [hp] at Hfind
        simp only [Option.getD_some] at Hfind
        have q1 : (k == 1) = true := by simpa using hk1
        have qq : (q == 0) = false := by simpa using hq0
        clear hfo hp hk2 hk1 hq0
        go_enter Try.func37, Try.ntmps37
        go_wp2_with fail
        clear b0 b1 b2 b3 b4 b5 b6
        refine (Hform.out _).mono ?_
        rintro e w1 ⟨rfl, t1⟩
        have hb1 := t1.blk Hb.out (by simp)
        obtain ⟨c0, c1, c2, c3, c4, c5, c6, _⟩ := blk7 hb1
        go_wp2_with fail
        refine (Hfind.out _ (t0.trans0 t1)).mono ?_
        rintro e w2 ⟨rfl, rfl⟩
        go_wp2_with fail
        go_ret2
        exact ⟨by rw [Hf.out]; rfl, t0.trans0 t1⟩
    have q1 : (k == 1) = false := by simpa using hk1
    have hst2 := Hst.out
    rw [if_neg hd32, if_neg (by rw [hfo]; simp), if_neg hk2, if_neg hk1] at hst2
    have Hst2 := Lib.hid hst2
    have Hsh := Lib.hid (shape hfo hk1 hk2)
    have Hte := Lib.hid fun (ts : List Int) (hl : ts.length = m) => tail_eq (d := ⟨k, nm, ⟨vk, vn, vt⟩, op⟩) (ts := ts) (by rw [hl]; exact hfo) hk1 hk2
    have Ih := Lib.hid ih; have Ha2 := Lib.hid ha2; have Hty := Lib.hid hty
    clear hst2 hfo hk1 hk2 Hst ih ha2 ha1 hty
    go_enter Try.func37, Try.ntmps37
    go_wp2_with fail
    clear b0 b1 b2 b3 b4 b5 b6
    refine (Hform.out _).mono ?_
    rintro e w1 ⟨rfl, t1⟩
    have hb1 := t1.blk Hb.out (by simp)
    obtain ⟨c0, c1, c2, c3, c4, c5, c6, _⟩ := blk7 hb1
    have T1 := t0.trans0 t1
    go_wp2_with fail
    clear c0 c1 c2 c3 c4 c5 c6
    have Hb1 := Lib.hid hb1
    clear hb1
    go_loopw [9, 10] (fun v i wr => ∃ (j : Nat) (B : Option Addr) (cB : Nat), j ≤ m ∧ i = .int .i64 j ∧ v = .slice B j cB ∧ Made 3 1 inE ((args.take j).map fun a => (typedX cs n (d + 1) a).1) B cB w1 wr ∧ Hid (∀ a ∈ args.take j, decide ((typedX cs n (d + 1) a).2 ≠ 0) = false)) (fun _ i _ => m - (intOf i).toNat)
    case atStart => exact ⟨0, none, 0, by omega, rfl, rfl, Made.nil _ _ _ _, Lib.hid (by simp)⟩
    case round =>
      obtain ⟨j, B, cB, hj, rfl, rfl, hmd, Hno⟩ := hrel
      have T2 := T1.trans0 hmd.t
      obtain ⟨x0, x1, x2, x3, x4, x5, x6, _⟩ := blk7 (hmd.t.blk Hb1.out (by simp))
      by_cases hlt : j < m
      · have hlt' : j < args.length := by rw [← H2.out]; exact hlt
        obtain ⟨ad, b, off, y, rfl, hadd, hy, hcell⟩ := (h3.touch0 T2).at_ xcR_length j hlt'
        have hsn := List.take_succ_eq_append_getElem hlt'
        have hms := size_mem (List.getElem_mem hlt')
        have hay := Ha2.out _ (List.getElem_mem hlt')
        have hhit := find_hit (p := fun a => decide ((typedX cs n (d + 1) a).2 ≠ 0)) hlt'
        obtain ⟨a, hae⟩ : ∃ a, a = args[j] := ⟨_, rfl⟩
        rw [← hae] at hy hsn hms hay hhit
        have Hc := Lib.hid (Ih.out a y A cap cs.length cs rfl (d + 1) _ hy (hcs.touch0 T2) Hty.out hmb (by omega) hay (by omega))
        have Htl := Lib.hid (show ((args.take j).map fun a => (typedX cs n (d + 1) a).1).length = j by rw [List.length_map, List.length_take]; omega)
        have c0 := hcell 0 _ rfl; have c1 := hcell 1 _ rfl; have c2 := hcell 2 _ rfl; have c3 := hcell 3 _ rfl; have c4 := hcell 4 _ rfl; have c5 := hcell 5 _ rfl; have c6 := hcell 6 _ rfl
        rw [Nat.add_zero] at c0
        have Hsn := Lib.hid hsn; have Hhit := Lib.hid hhit
        clear hsn hae hcell hms hay hhit hlt'
        obtain ⟨⟨k2, nm2, ⟨vk2, vn2, vt2⟩, op2⟩, A2, m2, c2'⟩ := y
        simp only [XC.valR] at Hc
        simp only at c0 c1 c2 c3 c4 c5 c6
        obtain ⟨ty, hty⟩ : ∃ ty, ty = (typedX cs n (d + 1) a).1 := ⟨_, rfl⟩
        obtain ⟨er, her⟩ : ∃ er, er = (typedX cs n (d + 1) a).2 := ⟨_, rfl⟩
        rw [← hty, ← her] at Hc
        have Hty := Lib.hid hty; have Her := Lib.hid her
        clear hty her
        have hjI : (j : Int) < (m : Int) := by omega
        by_cases he0 : er = 0
        · have Hno2 := Lib.hid (show ∀ a ∈ args.take (j + 1), decide ((typedX cs n (d + 1) a).2 ≠ 0) = false from fun a' ha' => by
            rw [Hsn.out] at ha'
            rcases List.mem_append.1 ha' with q | q
            · exact Hno.out a' q
            · rw [List.mem_singleton] at q; rw [q, ← Her.out, he0]; rfl)
          subst he0
          go_wp2_with fail
          refine Hc.out.mono ?_
          rintro e w2 ⟨rfl, t2⟩
          have tb := (Touch.refl [] w2).alloc (.cells #[.int .i64 ty] 3)
          have hmd2 := (hmd.touch0 t2).touch0 tb
          go_wp2_with (at_builtin; refine stop ?_)
          refine go ?_
          refine wpList_appK rfl (.tmp 60) (.tmp 62) 106 rfl 3 _ 1 8 info_int Try.underlying106 rfl (by omega) inE_length inE_one B j cB _ Htl.out rfl hmd2.own
            (some ⟨w2.heap.size, 0, none⟩) 1 1 [ty] rfl rfl (RdK.one (enc := inE) w2 3 ty #[.int .i64 ty] rfl) (by omega) (by omega) ?_
          intro B5 cB5 w5 hown5 ht5 hf5
          go_wp2
          go_roundw
          case rel => exact ⟨j + 1, B5, cB5, by omega, by go_num, rfl, by rw [Hsn.out, List.map_append]; simp only [List.map_cons, List.map_nil]; rw [← Hty.out]; exact hmd2.step hown5 ht5 hf5, Hno2⟩
          case measure => simp [intOf]; omega
        · have Hf := Lib.hid (show res = (0, er) by rw [Hst2.out, Hhit.out (by rw [← Her.out]; simpa using he0) Hno.out]; simp only; rw [← Her.out])
          have e0 : (er != 0) = true := by simpa using he0
          clear he0
          go_wp2_with fail
          refine Hc.out.mono ?_
          rintro e w2 ⟨rfl, t2⟩
          go_wp2_with fail
          go_ret2
          exact ⟨by rw [Hf.out]; rfl, T2.trans0 t2⟩
      · obtain rfl : j = m := by omega
        have htk : args.take j = args := by rw [H2.out, List.take_length]
        rw [htk] at hmd Hno
        have hst3 := Hst2.out
        rw [find_miss Hno.out] at hst3
        have hbk := hmd.t.blk Hb1.out (by simp)
        obtain ⟨ts, hts⟩ : ∃ ts, ts = args.map fun a => (typedX cs n (d + 1) a).1 := ⟨_, rfl⟩
        have htl : ts.length = j := by rw [hts, List.length_map, H2.out]
        rw [← hts] at hmd
        have hst4 : res = refTail k nm op ts := by
          have h := Hte.out ts htl
          (try simp only at h)
          rw [← h, hst3, hts]
          rfl
        have hints : IntsAt wr B ts := hmd.own.rd
        have hBs : B = none ∧ ts = [] ∨ ∃ g, B = some ⟨g, 0, none⟩ := by
          rcases hmd.own.head with ⟨e1, e2, _⟩ | ⟨g, e⟩
          · exact .inl ⟨e1, e2⟩
          · exact .inr ⟨g, e⟩
        have hsh := Hsh.out
        (try simp only at hsh)
        have Hst4 := Lib.hid hst4
        have Hbk := Lib.hid hbk
        clear hst3 hst4 hts hmd Hno Hst2 Hsh Hte hbk htk Ih Ha2 Hty Hb1 Hform Hfind H2 h3 hcs
        have Htl := Lib.hid htl
        obtain ⟨z0, z1, z2, z3, z4, z5, z6, _⟩ := blk7 Hbk.out
        have hcat := beq_S2 nm [99, 97, 116]
        have habs := beq_S2 nm [97, 98, 115]
        clear x0 x1 x2 x3 x4 x5 x6 htl
        by_cases hk5 : k = 5
        · have H5 := Lib.hid hk5
          have q5 : (k == 5) = true := by simpa using hk5
          have q5n : (k != 5) = false := by simpa using hk5
          have q4 : (k == 4) = false := by rw [hk5]; rfl
          have hsh5 : inL nm nEI = true → j = 2 ∨ j = 3 := by
            rcases hsh with ⟨h, _⟩ | ⟨h, _⟩ | ⟨_, _, h⟩
            · rw [hk5] at h; cases h
            · rw [hk5] at h; cases h
            · rcases h with ⟨_, h⟩ | ⟨h, _⟩ | ⟨h, _⟩
              · intro hi; rcases h with h | h | h <;> (rw [h] at hi; exact absurd hi (by decide))
              · exact fun _ => .inl h
              · exact fun _ => .inr h
          have Hcm := Lib.hid (show ¬ (k = 4 ∧ inL op nCMP = true) from fun h => by rw [hk5] at h; cases h.1)
          clear hk5 hsh
          go_wp2_with fail
          refine (in4_any nm _ _ _ nEI rfl _ (RdK.row (enc := tsE) wr 9 nEI #[.string ⟨#[101, 105, 116, 104, 101, 114]⟩, .string ⟨#[105, 102]⟩] rfl) (by decide)).mono ?_
          rintro e w3 ⟨rfl, rfl⟩
          have u4 := (Touch.refl [] wr).alloc (.cells #[.string ⟨#[101, 105, 116, 104, 101, 114]⟩, .string ⟨#[105, 102]⟩] 9)
          obtain ⟨w4, hw4⟩ : ∃ w', w' = wr.alloc (.cells #[.string ⟨#[101, 105, 116, 104, 101, 114]⟩, .string ⟨#[105, 102]⟩] 9) := ⟨_, rfl⟩
          rw [← hw4] at u4 ⊢
          replace hints := hints.touch0 u4
          have Hbk4 := Lib.hid (u4.blk Hbk.out (by simp))
          clear z0 z1 z2 z3 z4 z5 z6
          obtain ⟨z0, z1, z2, z3, z4, z5, z6, _⟩ := blk7 Hbk4.out
          have T4 := T2.trans0 u4
          clear hw4
          rcases hei : inL nm nEI with _ | _
          · have Hei := Lib.hid (show ¬ (k = 5 ∧ inL nm nEI = true) from fun h => by rw [hei] at h; cases h.2)
            clear hei hsh5
            go_wp2_with fail
            refine (in4_any nm _ _ _ nLC rfl _ (RdK.row (enc := tsE) w4 9 nLC #[.string ⟨#[108, 101, 110]⟩, .string ⟨#[99, 97, 116]⟩] rfl) (by decide)).mono ?_
            rintro e w3 ⟨rfl, rfl⟩
            have u5 := (Touch.refl [] w4).alloc (.cells #[.string ⟨#[108, 101, 110]⟩, .string ⟨#[99, 97, 116]⟩] 9)
            obtain ⟨w5, hw5⟩ : ∃ w', w' = w4.alloc (.cells #[.string ⟨#[108, 101, 110]⟩, .string ⟨#[99, 97, 116]⟩] 9) := ⟨_, rfl⟩
            rw [← hw5] at u5 ⊢
            replace hints := hints.touch0 u5
            have Hbk5 := Lib.hid (u5.blk Hbk4.out (by simp))
            clear z0 z1 z2 z3 z4 z5 z6
            obtain ⟨z0, z1, z2, z3, z4, z5, z6, _⟩ := blk7 Hbk5.out
            have T5 := T4.trans0 u5
            clear hw5
            rcases hlc : inL nm nLC with _ | _
            · have Hlc := Lib.hid (show ¬ (k = 5 ∧ inL nm nLC = true) from fun h => by rw [hlc] at h; cases h.2)
              clear hlc
              rcases hab : decide (nm = S [97, 98, 115]) with _ | _
              · rw [hab] at habs
                have Hab := Lib.hid (show ¬ nm = S [97, 98, 115] from of_decide_eq_false hab)
                clear hab
                have Hst5 := Lib.hid (show res = (if ts.any (misfit 0) = true then (0, 12) else if k = 5 ∧ nm = S [99, 97, 116] then (2, 0) else (1, 0)) by rw [Hst4.out]; unfold refTail; rw [if_neg Hei.out, if_neg Hcm.out, show needV k nm op = 0 from by unfold needV; rw [if_neg Hlc.out, if_neg (fun h => by rcases h with h | h; exact Hab.out h.2; exact h.1 H5.out)]])
                go_wp2_with fail
                go_loop [16] (fun i => ∃ q : Nat, q ≤ j ∧ i = .int .i64 q ∧ Hid ((ts.take q).any (misfit 0) = false)) (fun i => j - (intOf i).toNat)
                case atStart => exact ⟨0, by omega, rfl, Lib.hid rfl⟩
                case round =>
                  obtain ⟨q, hq, rfl, Hall⟩ := hrel
                  by_cases hql : q < j
                  · have hql' : q < ts.length := by rw [Htl.out]; exact hql
                    obtain ⟨ad, rfl, hcq⟩ := hints.at_ q hql'
                    have Hsn := Lib.hid (show (ts.take (q + 1)).any (misfit 0) = misfit 0 ts[q] by rw [List.take_succ_eq_append_getElem hql', List.any_append, Hall.out]; simp)
                    have Hye := Lib.hid (show misfit 0 ts[q] = true → ts.any (misfit 0) = true from fun h => List.any_eq_true.2 ⟨_, List.getElem_mem hql', h⟩)
                    obtain ⟨t, ht⟩ : ∃ t, t = ts[q] := ⟨_, rfl⟩
                    rw [← ht] at hcq Hsn Hye
                    have hqI : (q : Int) < (j : Int) := by omega
                    clear ht hql'
                    have Hr := Lib.hid (show (ts.take (q + 1)).any (misfit 0) = false by rw [Hsn.out]; rfl)
                    go_wp2_with fail
                    go_round
                    case rel => exact ⟨q + 1, by omega, by go_num, Hr⟩
                    case measure => simp [intOf]; omega
                  · obtain rfl : q = j := by omega
                    have Hal := Lib.hid (show ts.any (misfit 0) = false by have := Hall.out; rwa [List.take_of_length_le (by rw [Htl.out]; exact Nat.le_refl _)] at this)
                    rcases hc : decide (nm = S [99, 97, 116]) with _ | _
                    · rw [hc] at hcat
                      have Hf := Lib.hid (show res = (1, 0) by rw [Hst5.out, if_neg (by rw [Hal.out]; simp), if_neg (fun h => by rw [decide_eq_true h.2] at hc; cases hc)])
                      clear hc
                      go_wp2_with fail
                      go_ret2
                      exact ⟨by rw [Hf.out]; rfl, T5⟩
                    · rw [hc] at hcat
                      have Hf := Lib.hid (show res = (2, 0) by rw [Hst5.out, if_neg (by rw [Hal.out]; simp), if_pos ⟨H5.out, of_decide_eq_true hc⟩])
                      clear hc
                      go_wp2_with fail
                      go_ret2
                      exact ⟨by rw [Hf.out]; rfl, T5⟩
              · rw [hab] at habs
                have Hab := Lib.hid (show nm = S [97, 98, 115] from of_decide_eq_true hab)
                clear hab
                have Hst5 := Lib.hid (show res = (if ts.any (misfit 1) = true then (0, 12) else if k = 5 ∧ nm = S [99, 97, 116] then (2, 0) else (1, 0)) by rw [Hst4.out]; unfold refTail; rw [if_neg Hei.out, if_neg Hcm.out, show needV k nm op = 1 from by unfold needV; rw [if_neg Hlc.out, if_pos (.inl ⟨H5.out, Hab.out⟩)]])
                go_wp2_with fail
                go_loop [16] (fun i => ∃ q : Nat, q ≤ j ∧ i = .int .i64 q ∧ Hid ((ts.take q).any (misfit 1) = false)) (fun i => j - (intOf i).toNat)
                case atStart => exact ⟨0, by omega, rfl, Lib.hid rfl⟩
                case round =>
                  obtain ⟨q, hq, rfl, Hall⟩ := hrel
                  by_cases hql : q < j
                  · have hql' : q < ts.length := by rw [Htl.out]; exact hql
                    obtain ⟨ad, rfl, hcq⟩ := hints.at_ q hql'
                    have Hsn := Lib.hid (show (ts.take (q + 1)).any (misfit 1) = misfit 1 ts[q] by rw [List.take_succ_eq_append_getElem hql', List.any_append, Hall.out]; simp)
                    have Hye := Lib.hid (show misfit 1 ts[q] = true → ts.any (misfit 1) = true from fun h => List.any_eq_true.2 ⟨_, List.getElem_mem hql', h⟩)
                    obtain ⟨t, ht⟩ : ∃ t, t = ts[q] := ⟨_, rfl⟩
                    rw [← ht] at hcq Hsn Hye
                    have hqI : (q : Int) < (j : Int) := by omega
                    clear ht hql'
                    by_cases e0 : t = 0
                    · have Hr := Lib.hid (show (ts.take (q + 1)).any (misfit 1) = false by rw [Hsn.out]; subst e0; rfl)
                      have qt : (t != 0) = false := by simpa using e0
                      clear e0 Hsn Hye
                      go_wp2_with fail
                      go_round
                      case rel => exact ⟨q + 1, by omega, by go_num, Hr⟩
                      case measure => simp [intOf]; omega
                    have qt : (t != 0) = true := by simpa using e0
                    by_cases e1 : t = 1
                    · have Hr := Lib.hid (show (ts.take (q + 1)).any (misfit 1) = false by rw [Hsn.out]; subst e1; rfl)
                      have qn : (t != 1) = false := by simpa using e1
                      clear e0 e1 Hsn Hye
                      go_wp2_with fail
                      go_round
                      case rel => exact ⟨q + 1, by omega, by go_num, Hr⟩
                      case measure => simp [intOf]; omega
                    · have qn : (t != 1) = true := by simpa using e1
                      have Hf := Lib.hid (show res = (0, 12) by rw [Hst5.out, if_pos (Hye.out (by unfold misfit; rw [decide_eq_true (p := t ≠ 0) e0, decide_eq_true (p := t ≠ 1) e1]; rfl))])
                      clear e0 e1 Hsn Hye
                      go_wp2_with fail
                      go_ret2
                      exact ⟨by rw [Hf.out]; rfl, T5⟩
                  · obtain rfl : q = j := by omega
                    have Hal := Lib.hid (show ts.any (misfit 1) = false by have := Hall.out; rwa [List.take_of_length_le (by rw [Htl.out]; exact Nat.le_refl _)] at this)
                    rcases hc : decide (nm = S [99, 97, 116]) with _ | _
                    · rw [hc] at hcat
                      have Hf := Lib.hid (show res = (1, 0) by rw [Hst5.out, if_neg (by rw [Hal.out]; simp), if_neg (fun h => by rw [decide_eq_true h.2] at hc; cases hc)])
                      clear hc
                      go_wp2_with fail
                      go_ret2
                      exact ⟨by rw [Hf.out]; rfl, T5⟩
                    · rw [hc] at hcat
                      have Hf := Lib.hid (show res = (2, 0) by rw [Hst5.out, if_neg (by rw [Hal.out]; simp), if_pos ⟨H5.out, of_decide_eq_true hc⟩])
                      clear hc
                      go_wp2_with fail
                      go_ret2
                      exact ⟨by rw [Hf.out]; rfl, T5⟩
            · have Hlc := Lib.hid (show k = 5 ∧ inL nm nLC = true from ⟨H5.out, hlc⟩)
              clear hlc
              have habf : decide (nm = S [97, 98, 115]) = false := decide_eq_false (fun h => by have := Hlc.out.2; rw [h] at this; exact absurd this (by decide))
              rw [habf] at habs
              clear habf
              have Hst5 := Lib.hid (show res = (if ts.any (misfit 2) = true then (0, 12) else if k = 5 ∧ nm = S [99, 97, 116] then (2, 0) else (1, 0)) by rw [Hst4.out]; unfold refTail; rw [if_neg Hei.out, if_neg Hcm.out, show needV k nm op = 2 from by unfold needV; rw [if_pos Hlc.out]])
              go_wp2_with fail
              go_loop [16] (fun i => ∃ q : Nat, q ≤ j ∧ i = .int .i64 q ∧ Hid ((ts.take q).any (misfit 2) = false)) (fun i => j - (intOf i).toNat)
              case atStart => exact ⟨0, by omega, rfl, Lib.hid rfl⟩
              case round =>
                obtain ⟨q, hq, rfl, Hall⟩ := hrel
                by_cases hql : q < j
                · have hql' : q < ts.length := by rw [Htl.out]; exact hql
                  obtain ⟨ad, rfl, hcq⟩ := hints.at_ q hql'
                  have Hsn := Lib.hid (show (ts.take (q + 1)).any (misfit 2) = misfit 2 ts[q] by rw [List.take_succ_eq_append_getElem hql', List.any_append, Hall.out]; simp)
                  have Hye := Lib.hid (show misfit 2 ts[q] = true → ts.any (misfit 2) = true from fun h => List.any_eq_true.2 ⟨_, List.getElem_mem hql', h⟩)
                  obtain ⟨t, ht⟩ : ∃ t, t = ts[q] := ⟨_, rfl⟩
                  rw [← ht] at hcq Hsn Hye
                  have hqI : (q : Int) < (j : Int) := by omega
                  clear ht hql'
                  by_cases e0 : t = 0
                  · have Hr := Lib.hid (show (ts.take (q + 1)).any (misfit 2) = false by rw [Hsn.out]; subst e0; rfl)
                    have qt : (t != 0) = false := by simpa using e0
                    clear e0 Hsn Hye
                    go_wp2_with fail
                    go_round
                    case rel => exact ⟨q + 1, by omega, by go_num, Hr⟩
                    case measure => simp [intOf]; omega
                  have qt : (t != 0) = true := by simpa using e0
                  by_cases e1 : t = 2
                  · have Hr := Lib.hid (show (ts.take (q + 1)).any (misfit 2) = false by rw [Hsn.out]; subst e1; rfl)
                    have qn : (t != 2) = false := by simpa using e1
                    clear e0 e1 Hsn Hye
                    go_wp2_with fail
                    go_round
                    case rel => exact ⟨q + 1, by omega, by go_num, Hr⟩
                    case measure => simp [intOf]; omega
                  · have qn : (t != 2) = true := by simpa using e1
                    have Hf := Lib.hid (show res = (0, 12) by rw [Hst5.out, if_pos (Hye.out (by unfold misfit; rw [decide_eq_true (p := t ≠ 0) e0, decide_eq_true (p := t ≠ 2) e1]; rfl))])
                    clear e0 e1 Hsn Hye
                    go_wp2_with fail
                    go_ret2
                    exact ⟨by rw [Hf.out]; rfl, T5⟩
                · obtain rfl : q = j := by omega
                  have Hal := Lib.hid (show ts.any (misfit 2) = false by have := Hall.out; rwa [List.take_of_length_le (by rw [Htl.out]; exact Nat.le_refl _)] at this)
                  rcases hc : decide (nm = S [99, 97, 116]) with _ | _
                  · rw [hc] at hcat
                    have Hf := Lib.hid (show res = (1, 0) by rw [Hst5.out, if_neg (by rw [Hal.out]; simp), if_neg (fun h => by rw [decide_eq_true h.2] at hc; cases hc)])
                    clear hc
                    go_wp2_with fail
                    go_ret2
                    exact ⟨by rw [Hf.out]; rfl, T5⟩
                  · rw [hc] at hcat
                    have Hf := Lib.hid (show res = (2, 0) by rw [Hst5.out, if_neg (by rw [Hal.out]; simp), if_pos ⟨H5.out, of_decide_eq_true hc⟩])
                    clear hc
                    go_wp2_with fail
                    go_ret2
                    exact ⟨by rw [Hf.out]; rfl, T5⟩
          · have hpre : res = (if ts.getD (ts.length - 2) 0 ≠ 0 ∧ ts.getD (ts.length - 1) 0 ≠ 0 ∧ ts.getD (ts.length - 2) 0 ≠ ts.getD (ts.length - 1) 0 then (0, 12) else if ts.getD (ts.length - 2) 0 = 0 then (ts.getD (ts.length - 1) 0, 0) else (ts.getD (ts.length - 2) 0, 0)) := by rw [Hst4.out]; unfold refTail; rw [if_pos ⟨H5.out, hei⟩]
            have Hpre := Lib.hid hpre
            clear hpre
            rcases hsh5 hei with hj2 | hj3
            · subst hj2
              clear hsh5 hei
              obtain ⟨ta, tc, hts⟩ := list2 Htl.out
              subst hts
              obtain ⟨g, rfl, hcl⟩ := ints_cells hints hBs (by simp)
              have s0 := hcl 0 (by simp)
              have s1 := hcl 1 (by simp)
              simp only [List.getElem_cons_zero, List.getElem_cons_succ] at s0 s1
              have Hpr2 := Lib.hid (show res = (if ta ≠ 0 ∧ tc ≠ 0 ∧ ta ≠ tc then (0, 12) else if ta = 0 then (tc, 0) else (ta, 0)) from Hpre.out)
              clear hcl Hpre hints hBs
              have g0 := TW.cell s0
              have g1 := TW.cell s1
              clear s0 s1
              go_wp2_with fail
              refine wp_region_tw w4 (Touch.refl _ _) (by kernel_rfl) (by kernel_rfl) ?_
              repeat (go_big_quiet_step (fail))
              refine wpQuiet_nil ?_
              rintro _ ⟨y9, rfl⟩
              by_cases ha : ta = 0
              · have qa : (ta == 0) = true := by simpa using ha
                have qa' : (ta != 0) = false := by simpa using ha
                have Hf := Lib.hid (show res = (tc, 0) by rw [Hpr2.out, if_neg (fun h => h.1 ha), if_pos ha])
                clear ha
                go_wp2_with fail
                go_ret2
                exact ⟨by rw [Hf.out]; rfl, T4.trans0 y9.t⟩
              have qa : (ta == 0) = false := by simpa using ha
              have qa' : (ta != 0) = true := by simpa using ha
              by_cases hb : tc = 0
              · have qb' : (tc != 0) = false := by simpa using hb
                have Hf := Lib.hid (show res = (ta, 0) by rw [Hpr2.out, if_neg (fun h => h.2.1 hb), if_neg ha])
                clear hb ha
                go_wp2_with fail
                go_ret2
                exact ⟨by rw [Hf.out]; rfl, T4.trans0 y9.t⟩
              have qb' : (tc != 0) = true := by simpa using hb
              by_cases hab : ta = tc
              · have qab : (ta != tc) = false := by simpa using hab
                have Hf := Lib.hid (show res = (ta, 0) by rw [Hpr2.out, if_neg (fun h => h.2.2 hab), if_neg ha])
                clear hb ha hab
                go_wp2_with fail
                go_ret2
                exact ⟨by rw [Hf.out]; rfl, T4.trans0 y9.t⟩
              · have qab : (ta != tc) = true := by simpa using hab
                have Hf := Lib.hid (show res = (0, 12) by rw [Hpr2.out, if_pos ⟨ha, hb, hab⟩])
                clear hb ha hab
                go_wp2_with fail
                go_ret2
                exact ⟨by rw [Hf.out]; rfl, T4.trans0 y9.t⟩
            · subst hj3
              clear hsh5 hei
              obtain ⟨t9, ta, tc, hts⟩ := list3 Htl.out
              subst hts
              obtain ⟨g, rfl, hcl⟩ := ints_cells hints hBs (by simp)
              have s0 := hcl 1 (by simp)
              have s1 := hcl 2 (by simp)
              simp only [List.getElem_cons_zero, List.getElem_cons_succ] at s0 s1
              have Hpr2 := Lib.hid (show res = (if ta ≠ 0 ∧ tc ≠ 0 ∧ ta ≠ tc then (0, 12) else if ta = 0 then (tc, 0) else (ta, 0)) from Hpre.out)
              clear hcl Hpre hints hBs
              have g0 := TW.cell s0
              have g1 := TW.cell s1
              clear s0 s1
              go_wp2_with fail
              refine wp_region_tw w4 (Touch.refl _ _) (by kernel_rfl) (by kernel_rfl) ?_
              repeat (go_big_quiet_step (fail))
              refine wpQuiet_nil ?_
              rintro _ ⟨y9, rfl⟩
              by_cases ha : ta = 0
              · have qa : (ta == 0) = true := by simpa using ha
                have qa' : (ta != 0) = false := by simpa using ha
                have Hf := Lib.hid (show res = (tc, 0) by rw [Hpr2.out, if_neg (fun h => h.1 ha), if_pos ha])
                clear ha
                go_wp2_with fail
                go_ret2
                exact ⟨by rw [Hf.out]; rfl, T4.trans0 y9.t⟩
              have qa : (ta == 0) = false := by simpa using ha
              have qa' : (ta != 0) = true := by simpa using ha
              by_cases hb : tc = 0
              · have qb' : (tc != 0) = false := by simpa using hb
                have Hf := Lib.hid (show res = (ta, 0) by rw [Hpr2.out, if_neg (fun h => h.2.1 hb), if_neg ha])
                clear hb ha
                go_wp2_with fail
                go_ret2
                exact ⟨by rw [Hf.out]; rfl, T4.trans0 y9.t⟩
              have qb' : (tc != 0) = true := by simpa using hb
              by_cases hab : ta = tc
              · have qab : (ta != tc) = false := by simpa using hab
                have Hf := Lib.hid (show res = (ta, 0) by rw [Hpr2.out, if_neg (fun h => h.2.2 hab), if_neg ha])
                clear hb ha hab
                go_wp2_with fail
                go_ret2
                exact ⟨by rw [Hf.out]; rfl, T4.trans0 y9.t⟩
              · have qab : (ta != tc) = true := by simpa using hab
                have Hf := Lib.hid (show res = (0, 12) by rw [Hpr2.out, if_pos ⟨ha, hb, hab⟩])
                clear hb ha hab
                go_wp2_with fail
                go_ret2
                exact ⟨by rw [Hf.out]; rfl, T4.trans0 y9.t⟩
        have q5 : (k == 5) = false := by simpa using hk5
        have q5n : (k != 5) = true := by simpa using hk5
        have Hei := Lib.hid (show ¬ (k = 5 ∧ inL nm nEI = true) from fun h => hk5 h.1)
        have Hnc := Lib.hid (show ¬ (k = 5 ∧ nm = S [99, 97, 116]) from fun h => hk5 h.1)
        have H5 := Lib.hid hk5
        by_cases hk4 : k = 4
        · have H4 := Lib.hid hk4
          have q4 : (k == 4) = true := by simpa using hk4
          have hj2 : j = 2 := by
            rcases hsh with ⟨h, _⟩ | ⟨_, h, _⟩ | ⟨h, _⟩
            · rw [hk4] at h; cases h
            · exact h
            · rw [hk4] at h; cases h
          clear hk4 hk5 hsh
          go_wp2_with fail
          refine (in4_any op _ _ _ nCMP rfl _ (RdK.row (enc := tsE) wr 9 nCMP #[.string ⟨#[61]⟩, .string ⟨#[33, 61]⟩, .string ⟨#[60]⟩, .string ⟨#[60, 61]⟩, .string ⟨#[62]⟩, .string ⟨#[62, 61]⟩] rfl) (by decide)).mono ?_
          rintro e w3 ⟨rfl, rfl⟩
          have u4 := (Touch.refl [] wr).alloc (.cells #[.string ⟨#[61]⟩, .string ⟨#[33, 61]⟩, .string ⟨#[60]⟩, .string ⟨#[60, 61]⟩, .string ⟨#[62]⟩, .string ⟨#[62, 61]⟩] 9)
          obtain ⟨w4, hw4⟩ : ∃ w', w' = wr.alloc (.cells #[.string ⟨#[61]⟩, .string ⟨#[33, 61]⟩, .string ⟨#[60]⟩, .string ⟨#[60, 61]⟩, .string ⟨#[62]⟩, .string ⟨#[62, 61]⟩] 9) := ⟨_, rfl⟩
          rw [← hw4] at u4 ⊢
          replace hints := hints.touch0 u4
          have Hbk4 := Lib.hid (u4.blk Hbk.out (by simp))
          clear z0 z1 z2 z3 z4 z5 z6
          obtain ⟨z0, z1, z2, z3, z4, z5, z6, _⟩ := blk7 Hbk4.out
          have T4 := T2.trans0 u4
          clear hw4
          rcases hcm : inL op nCMP with _ | _
          · have Hcm := Lib.hid (show ¬ (k = 4 ∧ inL op nCMP = true) from fun h => by rw [hcm] at h; cases h.2)
            clear hcm
            go_wp2_with fail
            refine (in4_any op _ _ _ nAR rfl _ (RdK.row (enc := tsE) w4 9 nAR #[.string ⟨#[45]⟩, .string ⟨#[43]⟩, .string ⟨#[42]⟩, .string ⟨#[47]⟩, .string ⟨#[37]⟩] rfl) (by decide)).mono ?_
            rintro e w3 ⟨rfl, rfl⟩
            have u5 := (Touch.refl [] w4).alloc (.cells #[.string ⟨#[45]⟩, .string ⟨#[43]⟩, .string ⟨#[42]⟩, .string ⟨#[47]⟩, .string ⟨#[37]⟩] 9)
            obtain ⟨w5, hw5⟩ : ∃ w', w' = w4.alloc (.cells #[.string ⟨#[45]⟩, .string ⟨#[43]⟩, .string ⟨#[42]⟩, .string ⟨#[47]⟩, .string ⟨#[37]⟩] 9) := ⟨_, rfl⟩
            rw [← hw5] at u5 ⊢
            replace hints := hints.touch0 u5
            have Hbk5 := Lib.hid (u5.blk Hbk4.out (by simp))
            clear z0 z1 z2 z3 z4 z5 z6
            obtain ⟨z0, z1, z2, z3, z4, z5, z6, _⟩ := blk7 Hbk5.out
            have T5 := T4.trans0 u5
            clear hw5
            rcases har : inL op nAR with _ | _
            · have Har := Lib.hid (show ¬ (k = 5 ∧ nm = S [97, 98, 115] ∨ k ≠ 5 ∧ inL op nAR = true) from fun h => by rcases h with h | h; exact H5.out h.1; rw [har] at h; cases h.2)
              clear har
              have Hst5 := Lib.hid (show res = (if ts.any (misfit 0) = true then (0, 12) else if k = 5 ∧ nm = S [99, 97, 116] then (2, 0) else (1, 0)) by rw [Hst4.out]; unfold refTail; rw [if_neg Hei.out, if_neg Hcm.out, show needV k nm op = 0 from by unfold needV; rw [if_neg (fun h => H5.out h.1), if_neg Har.out]])
              go_wp2_with fail
              go_loop [16] (fun i => ∃ q : Nat, q ≤ j ∧ i = .int .i64 q ∧ Hid ((ts.take q).any (misfit 0) = false)) (fun i => j - (intOf i).toNat)
              case atStart => exact ⟨0, by omega, rfl, Lib.hid rfl⟩
              case round =>
                obtain ⟨q, hq, rfl, Hall⟩ := hrel
                by_cases hql : q < j
                · have hql' : q < ts.length := by rw [Htl.out]; exact hql
                  obtain ⟨ad, rfl, hcq⟩ := hints.at_ q hql'
                  have Hsn := Lib.hid (show (ts.take (q + 1)).any (misfit 0) = misfit 0 ts[q] by rw [List.take_succ_eq_append_getElem hql', List.any_append, Hall.out]; simp)
                  have Hye := Lib.hid (show misfit 0 ts[q] = true → ts.any (misfit 0) = true from fun h => List.any_eq_true.2 ⟨_, List.getElem_mem hql', h⟩)
                  obtain ⟨t, ht⟩ : ∃ t, t = ts[q] := ⟨_, rfl⟩
                  rw [← ht] at hcq Hsn Hye
                  have hqI : (q : Int) < (j : Int) := by omega
                  clear ht hql'
                  have Hr := Lib.hid (show (ts.take (q + 1)).any (misfit 0) = false by rw [Hsn.out]; rfl)
                  go_wp2_with fail
                  go_round
                  case rel => exact ⟨q + 1, by omega, by go_num, Hr⟩
                  case measure => simp [intOf]; omega
                · obtain rfl : q = j := by omega
                  have Hal := Lib.hid (show ts.any (misfit 0) = false by have := Hall.out; rwa [List.take_of_length_le (by rw [Htl.out]; exact Nat.le_refl _)] at this)
                  have Hf := Lib.hid (show res = (1, 0) by rw [Hst5.out, if_neg (by rw [Hal.out]; simp), if_neg Hnc.out])
                  go_wp2_with fail
                  go_ret2
                  exact ⟨by rw [Hf.out]; rfl, T5⟩
            · have Har := Lib.hid (show k = 5 ∧ nm = S [97, 98, 115] ∨ k ≠ 5 ∧ inL op nAR = true from .inr ⟨H5.out, har⟩)
              clear har
              have Hst5 := Lib.hid (show res = (if ts.any (misfit 1) = true then (0, 12) else if k = 5 ∧ nm = S [99, 97, 116] then (2, 0) else (1, 0)) by rw [Hst4.out]; unfold refTail; rw [if_neg Hei.out, if_neg Hcm.out, show needV k nm op = 1 from by unfold needV; rw [if_neg (fun h => H5.out h.1), if_pos Har.out]])
              go_wp2_with fail
              go_loop [16] (fun i => ∃ q : Nat, q ≤ j ∧ i = .int .i64 q ∧ Hid ((ts.take q).any (misfit 1) = false)) (fun i => j - (intOf i).toNat)
              case atStart => exact ⟨0, by omega, rfl, Lib.hid rfl⟩
              case round =>
                obtain ⟨q, hq, rfl, Hall⟩ := hrel
                by_cases hql : q < j
                · have hql' : q < ts.length := by rw [Htl.out]; exact hql
                  obtain ⟨ad, rfl, hcq⟩ := hints.at_ q hql'
                  have Hsn := Lib.hid (show (ts.take (q + 1)).any (misfit 1) = misfit 1 ts[q] by rw [List.take_succ_eq_append_getElem hql', List.any_append, Hall.out]; simp)
                  have Hye := Lib.hid (show misfit 1 ts[q] = true → ts.any (misfit 1) = true from fun h => List.any_eq_true.2 ⟨_, List.getElem_mem hql', h⟩)
                  obtain ⟨t, ht⟩ : ∃ t, t = ts[q] := ⟨_, rfl⟩
                  rw [← ht] at hcq Hsn Hye
                  have hqI : (q : Int) < (j : Int) := by omega
                  clear ht hql'
                  by_cases e0 : t = 0
                  · have Hr := Lib.hid (show (ts.take (q + 1)).any (misfit 1) = false by rw [Hsn.out]; subst e0; rfl)
                    have qt : (t != 0) = false := by simpa using e0
                    clear e0 Hsn Hye
                    go_wp2_with fail
                    go_round
                    case rel => exact ⟨q + 1, by omega, by go_num, Hr⟩
                    case measure => simp [intOf]; omega
                  have qt : (t != 0) = true := by simpa using e0
                  by_cases e1 : t = 1
                  · have Hr := Lib.hid (show (ts.take (q + 1)).any (misfit 1) = false by rw [Hsn.out]; subst e1; rfl)
                    have qn : (t != 1) = false := by simpa using e1
                    clear e0 e1 Hsn Hye
                    go_wp2_with fail
                    go_round
                    case rel => exact ⟨q + 1, by omega, by go_num, Hr⟩
                    case measure => simp [intOf]; omega
                  · have qn : (t != 1) = true := by simpa using e1
                    have Hf := Lib.hid (show res = (0, 12) by rw [Hst5.out, if_pos (Hye.out (by unfold misfit; rw [decide_eq_true (p := t ≠ 0) e0, decide_eq_true (p := t ≠ 1) e1]; rfl))])
                    clear e0 e1 Hsn Hye
                    go_wp2_with fail
                    go_ret2
                    exact ⟨by rw [Hf.out]; rfl, T5⟩
                · obtain rfl : q = j := by omega
                  have Hal := Lib.hid (show ts.any (misfit 1) = false by have := Hall.out; rwa [List.take_of_length_le (by rw [Htl.out]; exact Nat.le_refl _)] at this)
                  have Hf := Lib.hid (show res = (1, 0) by rw [Hst5.out, if_neg (by rw [Hal.out]; simp), if_neg Hnc.out])
                  go_wp2_with fail
                  go_ret2
                  exact ⟨by rw [Hf.out]; rfl, T5⟩
          · have hpre : res = (if ts.getD 0 0 ≠ 0 ∧ ts.getD 1 0 ≠ 0 ∧ ts.getD 0 0 ≠ ts.getD 1 0 then (0, 12) else (1, 0)) := by rw [Hst4.out]; unfold refTail; rw [if_neg Hei.out, if_pos ⟨H4.out, hcm⟩]
            have Hpre := Lib.hid hpre
            clear hpre hcm
            subst hj2
            obtain ⟨ta, tc, hts⟩ := list2 Htl.out
            subst hts
            obtain ⟨g, rfl, hcl⟩ := ints_cells hints hBs (by simp)
            have s0 := hcl 0 (by simp)
            have s1 := hcl 1 (by simp)
            simp only [List.getElem_cons_zero, List.getElem_cons_succ] at s0 s1
            have Hpr2 := Lib.hid (show res = (if ta ≠ 0 ∧ tc ≠ 0 ∧ ta ≠ tc then (0, 12) else (1, 0)) from Hpre.out)
            clear hcl Hpre hints hBs
            have g0 := TW.cell s0
            have g1 := TW.cell s1
            clear s0 s1
            by_cases ha : ta = 0
            · have qa : (ta == 0) = true := by simpa using ha
              have qa' : (ta != 0) = false := by simpa using ha
              have Hf := Lib.hid (show res = (1, 0) by rw [Hpr2.out, if_neg (fun h => h.1 ha)])
              clear ha
              go_wp2_with fail
              refine wp_region_tw w4 (Touch.refl _ _) (by kernel_rfl) (by kernel_rfl) ?_
              repeat (go_big_quiet_step (fail))
              refine wpQuiet_nil ?_
              rintro _ ⟨y9, rfl⟩
              go_wp2_with fail
              go_ret2
              exact ⟨by rw [Hf.out]; rfl, T4.trans0 y9.t⟩
            have qa : (ta == 0) = false := by simpa using ha
            have qa' : (ta != 0) = true := by simpa using ha
            by_cases hb : tc = 0
            · have qb' : (tc != 0) = false := by simpa using hb
              have Hf := Lib.hid (show res = (1, 0) by rw [Hpr2.out, if_neg (fun h => h.2.1 hb)])
              clear hb ha
              go_wp2_with fail
              refine wp_region_tw w4 (Touch.refl _ _) (by kernel_rfl) (by kernel_rfl) ?_
              repeat (go_big_quiet_step (fail))
              refine wpQuiet_nil ?_
              rintro _ ⟨y9, rfl⟩
              go_wp2_with fail
              go_ret2
              exact ⟨by rw [Hf.out]; rfl, T4.trans0 y9.t⟩
            have qb' : (tc != 0) = true := by simpa using hb
            by_cases hab : ta = tc
            · have qab : (ta != tc) = false := by simpa using hab
              have Hf := Lib.hid (show res = (1, 0) by rw [Hpr2.out, if_neg (fun h => h.2.2 hab)])
              clear hb ha hab
              go_wp2_with fail
              refine wp_region_tw w4 (Touch.refl _ _) (by kernel_rfl) (by kernel_rfl) ?_
              repeat (go_big_quiet_step (fail))
              refine wpQuiet_nil ?_
              rintro _ ⟨y9, rfl⟩
              go_wp2_with fail
              go_ret2
              exact ⟨by rw [Hf.out]; rfl, T4.trans0 y9.t⟩
            · have qab : (ta != tc) = true := by simpa using hab
              have Hf := Lib.hid (show res = (0, 12) by rw [Hpr2.out, if_pos ⟨ha, hb, hab⟩])
              clear hb ha hab
              go_wp2_with fail
              refine wp_region_tw w4 (Touch.refl _ _) (by kernel_rfl) (by kernel_rfl) ?_
              repeat (go_big_quiet_step (fail))
              refine wpQuiet_nil ?_
              rintro _ ⟨y9, rfl⟩
              go_wp2_with fail
              go_ret2
              exact ⟨by rw [Hf.out]; rfl, T4.trans0 y9.t⟩
        have q4 : (k == 4) = false := by simpa using hk4
        have Hcm := Lib.hid (show ¬ (k = 4 ∧ inL op nCMP = true) from fun h => hk4 h.1)
        clear hk4 hk5 hsh
        go_wp2_with fail
        refine (in4_any op _ _ _ nAR rfl _ (RdK.row (enc := tsE) wr 9 nAR #[.string ⟨#[45]⟩, .string ⟨#[43]⟩, .string ⟨#[42]⟩, .string ⟨#[47]⟩, .string ⟨#[37]⟩] rfl) (by decide)).mono ?_
        rintro e w3 ⟨rfl, rfl⟩
        have u4 := (Touch.refl [] wr).alloc (.cells #[.string ⟨#[45]⟩, .string ⟨#[43]⟩, .string ⟨#[42]⟩, .string ⟨#[47]⟩, .string ⟨#[37]⟩] 9)
        obtain ⟨w4, hw4⟩ : ∃ w', w' = wr.alloc (.cells #[.string ⟨#[45]⟩, .string ⟨#[43]⟩, .string ⟨#[42]⟩, .string ⟨#[47]⟩, .string ⟨#[37]⟩] 9) := ⟨_, rfl⟩
        rw [← hw4] at u4 ⊢
        replace hints := hints.touch0 u4
        have Hbk4 := Lib.hid (u4.blk Hbk.out (by simp))
        clear z0 z1 z2 z3 z4 z5 z6
        obtain ⟨z0, z1, z2, z3, z4, z5, z6, _⟩ := blk7 Hbk4.out
        have T4 := T2.trans0 u4
        clear hw4
        rcases har : inL op nAR with _ | _
        · have Har := Lib.hid (show ¬ (k = 5 ∧ nm = S [97, 98, 115] ∨ k ≠ 5 ∧ inL op nAR = true) from fun h => by rcases h with h | h; exact H5.out h.1; rw [har] at h; cases h.2)
          clear har
          have Hst5 := Lib.hid (show res = (if ts.any (misfit 0) = true then (0, 12) else if k = 5 ∧ nm = S [99, 97, 116] then (2, 0) else (1, 0)) by rw [Hst4.out]; unfold refTail; rw [if_neg Hei.out, if_neg Hcm.out, show needV k nm op = 0 from by unfold needV; rw [if_neg (fun h => H5.out h.1), if_neg Har.out]])
          go_wp2_with fail
          go_loop [16] (fun i => ∃ q : Nat, q ≤ j ∧ i = .int .i64 q ∧ Hid ((ts.take q).any (misfit 0) = false)) (fun i => j - (intOf i).toNat)
          case atStart => exact ⟨0, by omega, rfl, Lib.hid rfl⟩
          case round =>
            obtain ⟨q, hq, rfl, Hall⟩ := hrel
            by_cases hql : q < j
            · have hql' : q < ts.length := by rw [Htl.out]; exact hql
              obtain ⟨ad, rfl, hcq⟩ := hints.at_ q hql'
              have Hsn := Lib.hid (show (ts.take (q + 1)).any (misfit 0) = misfit 0 ts[q] by rw [List.take_succ_eq_append_getElem hql', List.any_append, Hall.out]; simp)
              have Hye := Lib.hid (show misfit 0 ts[q] = true → ts.any (misfit 0) = true from fun h => List.any_eq_true.2 ⟨_, List.getElem_mem hql', h⟩)
              obtain ⟨t, ht⟩ : ∃ t, t = ts[q] := ⟨_, rfl⟩
              rw [← ht] at hcq Hsn Hye
              have hqI : (q : Int) < (j : Int) := by omega
              clear ht hql'
              have Hr := Lib.hid (show (ts.take (q + 1)).any (misfit 0) = false by rw [Hsn.out]; rfl)
              go_wp2_with fail
              go_round
              case rel => exact ⟨q + 1, by omega, by go_num, Hr⟩
              case measure => simp [intOf]; omega
            · obtain rfl : q = j := by omega
              have Hal := Lib.hid (show ts.any (misfit 0) = false by have := Hall.out; rwa [List.take_of_length_le (by rw [Htl.out]; exact Nat.le_refl _)] at this)
              have Hf := Lib.hid (show res = (1, 0) by rw [Hst5.out, if_neg (by rw [Hal.out]; simp), if_neg Hnc.out])
              go_wp2_with fail
              go_ret2
              exact ⟨by rw [Hf.out]; rfl, T4⟩
        · have Har := Lib.hid (show k = 5 ∧ nm = S [97, 98, 115] ∨ k ≠ 5 ∧ inL op nAR = true from .inr ⟨H5.out, har⟩)
          clear har
          have Hst5 := Lib.hid (show res = (if ts.any (misfit 1) = true then (0, 12) else if k = 5 ∧ nm = S [99, 97, 116] then (2, 0) else (1, 0)) by rw [Hst4.out]; unfold refTail; rw [if_neg Hei.out, if_neg Hcm.out, show needV k nm op = 1 from by unfold needV; rw [if_neg (fun h => H5.out h.1), if_pos Har.out]])
          go_wp2_with fail
          go_loop [16] (fun i => ∃ q : Nat, q ≤ j ∧ i = .int .i64 q ∧ Hid ((ts.take q).any (misfit 1) = false)) (fun i => j - (intOf i).toNat)
          case atStart => exact ⟨0, by omega, rfl, Lib.hid rfl⟩
          case round =>
            obtain ⟨q, hq, rfl, Hall⟩ := hrel
            by_cases hql : q < j
            · have hql' : q < ts.length := by rw [Htl.out]; exact hql
              obtain ⟨ad, rfl, hcq⟩ := hints.at_ q hql'
              have Hsn := Lib.hid (show (ts.take (q + 1)).any (misfit 1) = misfit 1 ts[q] by rw [List.take_succ_eq_append_getElem hql', List.any_append, Hall.out]; simp)
              have Hye := Lib.hid (show misfit 1 ts[q] = true → ts.any (misfit 1) = true from fun h => List.any_eq_true.2 ⟨_, List.getElem_mem hql', h⟩)
              obtain ⟨t, ht⟩ : ∃ t, t = ts[q] := ⟨_, rfl⟩
              rw [← ht] at hcq Hsn Hye
              have hqI : (q : Int) < (j : Int) := by omega
              clear ht hql'
              by_cases e0 : t = 0
              · have Hr := Lib.hid (show (ts.take (q + 1)).any (misfit 1) = false by rw [Hsn.out]; subst e0; rfl)
                have qt : (t != 0) = false := by simpa using e0
                clear e0 Hsn Hye
                go_wp2_with fail
                go_round
                case rel => exact ⟨q + 1, by omega, by go_num, Hr⟩
                case measure => simp [intOf]; omega
              have qt : (t != 0) = true := by simpa using e0
              by_cases e1 : t = 1
              · have Hr := Lib.hid (show (ts.take (q + 1)).any (misfit 1) = false by rw [Hsn.out]; subst e1; rfl)
                have qn : (t != 1) = false := by simpa using e1
                clear e0 e1 Hsn Hye
                go_wp2_with fail
                go_round
                case rel => exact ⟨q + 1, by omega, by go_num, Hr⟩
                case measure => simp [intOf]; omega
              · have qn : (t != 1) = true := by simpa using e1
                have Hf := Lib.hid (show res = (0, 12) by rw [Hst5.out, if_pos (Hye.out (by unfold misfit; rw [decide_eq_true (p := t ≠ 0) e0, decide_eq_true (p := t ≠ 1) e1]; rfl))])
                clear e0 e1 Hsn Hye
                go_wp2_with fail
                go_ret2
                exact ⟨by rw [Hf.out]; rfl, T4⟩
            · obtain rfl : q = j := by omega
              have Hal := Lib.hid (show ts.any (misfit 1) = false by have := Hall.out; rwa [List.take_of_length_le (by rw [Htl.out]; exact Nat.le_refl _)] at this)
              have Hf := Lib.hid (show res = (1, 0) by rw [Hst5.out, if_neg (by rw [Hal.out]; simp), if_neg Hnc.out])
              go_wp2_with fail
              go_ret2
              exact ⟨by rw [Hf.out]; rfl, T4⟩
end Go.Proofs.Ytlkckkagoommaaa

/- bywashlaw04.refSchema: columns turned to the reference's type. For every slice of columns. -/
namespace Go.Proofs.Ytlkckkagoommaaa
open Go.RowKit

set_option maxHeartbeats 1600000 in
theorem refSch_any (A : Option Addr) (cap n : Nat) (cs : List CD) (hn : cs.length = n) (w : World) (h : ColsAt w A cs) (hl : n ≤ 100000000) :
    Calls Try.prog 36 #[.slice A n cap] w fun e w' => ∃ A' c', e = .returned (.slice A' n c') ∧ Made 103 2 cdE cs A' c' w w' := by
  subst hn
  go_enter Try.func36, Try.ntmps36
  go_wp2
  go_loopw [3, 8] (fun v i wr => ∃ (k : Nat) (A' : Option Addr) (c' : Nat), k ≤ cs.length ∧ i = .int .i64 k ∧ v = .slice A' k c' ∧ Made 103 2 cdE (cs.take k) A' c' w wr) (fun _ i _ => cs.length - (intOf i).toNat)
  case atStart => exact ⟨0, none, 0, by omega, rfl, rfl, Made.nil _ _ _ _⟩
  case round =>
    obtain ⟨k, A', c', hk, rfl, rfl, hmd⟩ := hrel
    have ht := hmd.t
    by_cases hlt : k < cs.length
    · obtain ⟨ad, b, off, rfl, hadd, c0, c1⟩ := (h.touch0 ht).at_ k hlt
      have hsn := List.take_succ_eq_append_getElem hlt
      obtain ⟨c, hce⟩ : ∃ c, c = cs[k] := ⟨_, rfl⟩
      rw [← hce] at c0 c1 hsn
      have Hsn := Lib.hid hsn; have Hlen := Lib.hid (show (cs.take k).length = k by rw [List.length_take]; omega)
      clear hce hsn
      go_wp2_with (at_builtin; refine stop ?_)
      refine go ?_
      have tb := ((Touch.refl [] wr).alloc (.cells #[.string c.name, .int .i64 c.typ] 45)).alloc (.cells #[.string c.name, .int .i64 c.typ] 103)
      refine wpList_appK rfl (.tmp 12) (.tmp 18) 79 rfl 103 _ 2 24 info_rcol Try.underlying79 rfl (by omega) cdE_length cdE_one A' k c' (cs.take k) Hlen.out rfl (hmd.own.touch0 tb)
        (some ⟨wr.heap.size + 1, 0, none⟩) 1 1 [c] rfl rfl (by have := RdK.one (enc := cdE) (wr.alloc (.cells #[.string c.name, .int .i64 c.typ] 45)) 103 c #[.string c.name, .int .i64 c.typ] rfl; rwa [World.size_alloc] at this) (by omega) (by omega) ?_
      intro A3 c3 w3 hown3 ht3 hf3
      go_wp2
      go_roundw
      case rel => exact ⟨k + 1, A3, c3, by omega, by go_num, rfl, by rw [Hsn.out]; exact (hmd.touch0 tb).step hown3 ht3 hf3⟩
      case measure => simp [intOf]; omega
    · obtain rfl : k = cs.length := by omega
      rw [List.take_length] at hmd
      go_wp2
      go_ret
      exact ⟨A', c', rfl, hmd⟩
end Go.Proofs.Ytlkckkagoommaaa

/- bywashref04.Size: how many expressions, as the document's answer counts them. For every expression. -/
namespace Go.Proofs.Ytlkckkagoommaaa
open Go.RowKit

set_option maxRecDepth 20000 in
set_option maxHeartbeats 800000 in
theorem refSize_any (n : Nat) : ∀ (e : TX n) (x : XC) (w : World), ExP xcR anyB n w x e → sizeX n e ≤ 1000000 →
    Calls Try.prog 27 #[x.valR] w fun r w' => r = .returned (.int .i64 (sizeX n e)) ∧ Touch [] w w' := by
  induction n with
  | zero => intro e; exact e.elim
  | succ n ih =>
    intro e x w hx hs
    obtain ⟨nd, args⟩ := e
    obtain ⟨h1, h2, h3⟩ := hx.args
    have hsum : sumX n args ≤ 1000000 := by have hs' : 1 + sumX n args ≤ 1000000 := hs; omega
    have hlen := len_le_sum n args
    have htk := sum_take_le n args
    have hfin : sizeX (n + 1) (nd, args) = 1 + sumX n args := rfl
    obtain ⟨⟨k, nm, ⟨vk, vn, vt⟩, op⟩, A, m, c⟩ := x
    dsimp only at h2 h3
    subst h2
    dsimp only [XC.valR]
    have Htk := Lib.hid htk; have Hfin := Lib.hid hfin; have Ih := Lib.hid ih
    have t0 := (Touch.refl [] w).alloc (.cells #[.int .i64 k, .string nm, .string op, .int .i64 vk, .int .i64 vn, .string vt, .slice A args.length c] 61)
    have hb := heap_alloc_new w (.cells #[.int .i64 k, .string nm, .string op, .int .i64 vk, .int .i64 vn, .string vt, .slice A args.length c] 61)
    have Hb := Lib.hid hb
    clear htk hfin ih hx h1 hs hb
    go_enter Try.func27, Try.ntmps27
    go_wp2_with fail
    go_loopw [3, 4] (fun v i wr => ∃ j : Nat, j ≤ args.length ∧ i = .int .i64 j ∧ v = .int .i64 ((1 + sumX n (args.take j) : Nat) : Int) ∧ Touch [] w wr ∧ Hid (wr.heap[w.heap.size]? = some (.cells #[.int .i64 k, .string nm, .string op, .int .i64 vk, .int .i64 vn, .string vt, .slice A args.length c] 61 (0, 0)))) (fun _ i _ => args.length - (intOf i).toNat)
    case atStart => exact ⟨0, by omega, rfl, by simp [sumX], t0, Hb⟩
    case round =>
      obtain ⟨j, hj, rfl, rfl, ht, HB⟩ := hrel
      obtain ⟨a0, a1, a2, a3, a4, a5, a6, _⟩ := blk7 HB.out
      by_cases hlt : j < args.length
      · obtain ⟨ad, b, off, y, rfl, hadd, hy, hcell⟩ := (h3.touch0 ht).at_ xcR_length j hlt
        have hsn := sumX_snoc n args j hlt
        have hms := size_mem (List.getElem_mem hlt)
        have htj := Htk.out j
        have htj1 := Htk.out (j + 1)
        obtain ⟨a, hae⟩ : ∃ a, a = args[j] := ⟨_, rfl⟩
        rw [← hae] at hy hsn hms
        have hc := Lib.hid (Ih.out a y _ hy (by omega))
        have c0 := hcell 0 _ rfl; have c1 := hcell 1 _ rfl; have c2 := hcell 2 _ rfl; have c3 := hcell 3 _ rfl; have c4 := hcell 4 _ rfl; have c5 := hcell 5 _ rfl; have c6 := hcell 6 _ rfl
        rw [Nat.add_zero] at c0
        obtain ⟨p, hp⟩ : ∃ p, p = sumX n (args.take j) := ⟨_, rfl⟩
        obtain ⟨q, hq⟩ : ∃ q, q = sizeX n a := ⟨_, rfl⟩
        rw [← hp] at hsn htj ⊢
        rw [← hq] at hsn hms
        rw [hsn] at htj1
        have Hsn := Lib.hid hsn
        rw [← hq] at hc
        clear hsn hae hcell hp hq
        obtain ⟨⟨k2, nm2, ⟨vk2, vn2, vt2⟩, op2⟩, A2, m2, c2'⟩ := y
        simp only [XC.valR] at hc c0 c1 c2 c3 c4 c5 c6
        go_wp2_with fail
        refine hc.out.mono ?_
        rintro e w1 ⟨rfl, t1⟩
        go_wp2_with fail
        go_roundw
        case rel => exact ⟨j + 1, by omega, by go_num, by rw [Hsn.out]; go_num, ht.trans0 t1, Lib.hid (t1.blk HB.out (by simp))⟩
        case measure => simp [intOf]; omega
      · obtain rfl : j = args.length := by omega
        rw [List.take_length]
        go_wp2_with fail
        go_ret
        exact ⟨by rw [Hfin.out]; rfl, ht⟩
end Go.Proofs.Ytlkckkagoommaaa

/- bywashlaw04.ref: an expression as the document's answer lays it. For every expression. -/
namespace Go.Proofs.Ytlkckkagoommaaa
open Go.RowKit
attribute [local go_sem ↓] Go.wp_at_zero Go.wp_at_succ

theorem info_rexpr : (Try.prog.info? 61).map (fun i => (i.zero, i.size, i.bytes)) = some (some (.agg #[.int .i64 0, .string ⟨#[]⟩, .string ⟨#[]⟩, .int .i64 0, .int .i64 0, .string ⟨#[]⟩, .slice none 0 0]), 7, 96) := by kernel_rfl

set_option maxRecDepth 100000 in
set_option maxHeartbeats 6400000 in
theorem refX_any (n : Nat) : ∀ (e : TX n) (x : XC) (w : World), ExP xcE anyB n w x e → sizeX n e ≤ 1000000 →
    Calls Try.prog 28 #[x.val] w fun r w' => ∃ x', r = .returned x'.valR ∧ ExP xcR (Fr w.heap.size w') n w' x' e ∧ Touch [] w w' := by
  induction n with
  | zero => intro e; exact e.elim
  | succ n ih =>
    intro e x w hx hs
    obtain ⟨nd, args⟩ := e
    obtain ⟨h1, h2, h3⟩ := hx.args
    have hsum : sumX n args ≤ 1000000 := by have hs' : 1 + sumX n args ≤ 1000000 := hs; omega
    have hlen := len_le_sum n args
    obtain ⟨⟨k, nm, ⟨vk, vn, vt⟩, op⟩, A, m, c⟩ := x
    dsimp only at h1 h2 h3
    subst h2
    dsimp only [XC.val]
    have Ih := Lib.hid ih; have H1 := Lib.hid h1
    clear ih hx h1 hs
    have t0 := ((((Touch.refl [] w).alloc (.cells #[.int .i64 k, .string nm, .int .i64 vk, .int .i64 vn, .string vt, .string op, .slice A args.length c] 33)).alloc (.cells #[.int .i64 0, .string ⟨#[]⟩, .string ⟨#[]⟩, .int .i64 0, .int .i64 0, .string ⟨#[]⟩, .slice none 0 0] 61)).alloc (.cells #[.int .i64 k, .string nm, .string op, .int .i64 vk, .int .i64 vn, .string vt, .slice none 0 0] 61))
    have hbx := (heap_alloc_new ((w.alloc (.cells #[.int .i64 k, .string nm, .int .i64 vk, .int .i64 vn, .string vt, .string op, .slice A args.length c] 33)).alloc (.cells #[.int .i64 0, .string ⟨#[]⟩, .string ⟨#[]⟩, .int .i64 0, .int .i64 0, .string ⟨#[]⟩, .slice none 0 0] 61)) (.cells #[.int .i64 k, .string nm, .string op, .int .i64 vk, .int .i64 vn, .string vt, .slice none 0 0] 61))
    have hbr := (((Touch.refl [] ((w.alloc (.cells #[.int .i64 k, .string nm, .int .i64 vk, .int .i64 vn, .string vt, .string op, .slice A args.length c] 33)).alloc (.cells #[.int .i64 0, .string ⟨#[]⟩, .string ⟨#[]⟩, .int .i64 0, .int .i64 0, .string ⟨#[]⟩, .slice none 0 0] 61))).alloc (.cells #[.int .i64 k, .string nm, .string op, .int .i64 vk, .int .i64 vn, .string vt, .slice none 0 0] 61)).blk (heap_alloc_new (w.alloc (.cells #[.int .i64 k, .string nm, .int .i64 vk, .int .i64 vn, .string vt, .string op, .slice A args.length c] 33)) (.cells #[.int .i64 0, .string ⟨#[]⟩, .string ⟨#[]⟩, .int .i64 0, .int .i64 0, .string ⟨#[]⟩, .slice none 0 0] 61)) (by simp))
    simp only [World.size_alloc] at hbx hbr
    go_enter Try.func28, Try.ntmps28
    go_wp2_with fail
    go_loopw [26] (fun i wr => ∃ (j : Nat) (B : Option Addr) (cB : Nat), j ≤ args.length ∧ i = .int .i64 j ∧ wr.heap[w.heap.size + 1 + 1]? = some (.cells #[.int .i64 k, .string nm, .string op, .int .i64 vk, .int .i64 vn, .string vt, .slice B j cB] 61 (0, 0)) ∧
        wr.heap[w.heap.size + 1]? = some (.cells #[.int .i64 0, .string ⟨#[]⟩, .string ⟨#[]⟩, .int .i64 0, .int .i64 0, .string ⟨#[]⟩, .slice none 0 0] 61 (0, 0)) ∧ OwnX 61 xcR (w.heap.size + 3) n wr B cB (args.take j) ∧ Touch [] w wr) (fun i _ => args.length - (intOf i).toNat)
    case atStart => exact ⟨0, none, 0, by omega, rfl, hbx, hbr, OwnX.nil _ _ _ _ _, t0⟩
    case round =>
      obtain ⟨j, B, cB, hj, rfl, hX, hR, hown, ht⟩ := hrel
      have hBlt := fun b hb => (hown.lt b hb).2
      have hBlo := fun b hb => (hown.lt b hb).1
      have hXB : w.heap.size + 1 + 1 ∉ fpo B := fun hm => by have := hBlo _ hm; omega
      have hRB : w.heap.size + 1 ∉ fpo B := fun hm => by have := hBlo _ hm; omega
      have hlR := lt_of_block hR
      have hlX := lt_of_block hX
      by_cases hlt : j < args.length
      · obtain ⟨ad, b, off, y, rfl, hadd, hy, hcell⟩ := (h3.touch0 ht).at_ xcE_length j hlt
        have hsn := List.take_succ_eq_append_getElem hlt
        have hms := size_mem (List.getElem_mem hlt)
        have Htl := Lib.hid (show (args.take j).length = j by rw [List.length_take]; omega)
        obtain ⟨a, hae⟩ : ∃ a, a = args[j] := ⟨_, rfl⟩
        rw [← hae] at hy hsn hms
        have Ta := Lib.hid (((Touch.refl [] wr).alloc (.cells #[.int .i64 y.nd.kind, .string y.nd.name, .int .i64 y.nd.v.kind, .int .i64 y.nd.v.num, .string y.nd.v.text, .string y.nd.op, .slice y.A y.n y.c] 33)).drew)
        have Hc := Lib.hid (Ih.out a y _ (hy.touch0 Ta.out) (by omega))
        have hbv := heap_alloc_new wr (.cells #[.int .i64 y.nd.kind, .string y.nd.name, .int .i64 y.nd.v.kind, .int .i64 y.nd.v.num, .string y.nd.v.text, .string y.nd.op, .slice y.A y.n y.c] 33)
        have c0 := hcell 0 _ rfl; have c1 := hcell 1 _ rfl; have c2 := hcell 2 _ rfl; have c3 := hcell 3 _ rfl; have c4 := hcell 4 _ rfl; have c5 := hcell 5 _ rfl; have c6 := hcell 6 _ rfl
        rw [Nat.add_zero] at c0
        have z0 := Ta.out.cell (cell_blk hX (i := 6) rfl) (by simp)
        have sTa : wr.heap.size ≤ (wr.alloc (.cells #[.int .i64 y.nd.kind, .string y.nd.name, .int .i64 y.nd.v.kind, .int .i64 y.nd.v.num, .string y.nd.v.text, .string y.nd.op, .slice y.A y.n y.c] 33)).drew.heap.size := Ta.out.size
        have Hsn := Lib.hid hsn
        obtain ⟨⟨k2, nm2, ⟨vk2, vn2, vt2⟩, op2⟩, A2, m2, c2'⟩ := y
        simp only [XC.val, XC.valR] at Hc
        simp only at c0 c1 c2 c3 c4 c5 c6 Ta hbv z0 sTa
        have ff0 : (wr.alloc (.cells #[.int .i64 k2, .string nm2, .int .i64 vk2, .int .i64 vn2, .string vt2, .string op2, .slice A2 m2 c2'] 33)).drew.cell? ⟨wr.heap.size, 0, none⟩ = some (.int .i64 k2) := cell_blk hbv rfl
        have ff1 : (wr.alloc (.cells #[.int .i64 k2, .string nm2, .int .i64 vk2, .int .i64 vn2, .string vt2, .string op2, .slice A2 m2 c2'] 33)).drew.cell? ⟨wr.heap.size, 1, none⟩ = some (.string nm2) := cell_blk hbv rfl
        have ff2 : (wr.alloc (.cells #[.int .i64 k2, .string nm2, .int .i64 vk2, .int .i64 vn2, .string vt2, .string op2, .slice A2 m2 c2'] 33)).drew.cell? ⟨wr.heap.size, 2, none⟩ = some (.int .i64 vk2) := cell_blk hbv rfl
        have ff3 : (wr.alloc (.cells #[.int .i64 k2, .string nm2, .int .i64 vk2, .int .i64 vn2, .string vt2, .string op2, .slice A2 m2 c2'] 33)).drew.cell? ⟨wr.heap.size, 3, none⟩ = some (.int .i64 vn2) := cell_blk hbv rfl
        have ff4 : (wr.alloc (.cells #[.int .i64 k2, .string nm2, .int .i64 vk2, .int .i64 vn2, .string vt2, .string op2, .slice A2 m2 c2'] 33)).drew.cell? ⟨wr.heap.size, 4, none⟩ = some (.string vt2) := cell_blk hbv rfl
        have ff5 : (wr.alloc (.cells #[.int .i64 k2, .string nm2, .int .i64 vk2, .int .i64 vn2, .string vt2, .string op2, .slice A2 m2 c2'] 33)).drew.cell? ⟨wr.heap.size, 5, none⟩ = some (.string op2) := cell_blk hbv rfl
        have ff6 : (wr.alloc (.cells #[.int .i64 k2, .string nm2, .int .i64 vk2, .int .i64 vn2, .string vt2, .string op2, .slice A2 m2 c2'] 33)).drew.cell? ⟨wr.heap.size, 6, none⟩ = some (.slice A2 m2 c2') := cell_blk hbv rfl
        clear hsn hae hcell hbv hms
        go_wp2_with fail
        refine wp_region_held_drew (S := fun w' => w'.cell? ⟨wr.heap.size, 0, none⟩ = some (.int .i64 k2) ∧ w'.cell? ⟨wr.heap.size, 1, none⟩ = some (.string nm2) ∧ w'.cell? ⟨wr.heap.size, 2, none⟩ = some (.int .i64 vk2) ∧ w'.cell? ⟨wr.heap.size, 3, none⟩ = some (.int .i64 vn2) ∧ w'.cell? ⟨wr.heap.size, 4, none⟩ = some (.string vt2) ∧ w'.cell? ⟨wr.heap.size, 5, none⟩ = some (.string op2) ∧ w'.cell? ⟨wr.heap.size, 6, none⟩ = some (.slice A2 m2 c2')) (by kernel_rfl) ⟨ff0, ff1, ff2, ff3, ff4, ff5, ff6⟩ (fun hHeld => ?_)
        refine take_d (i := 0) (d := 30) (v := ?_) rfl rfl (by kernel_rfl) (by kernel_rfl) (by kernel_rfl) (fun _ _ _ h => h) (Or.inl ⟨by rfl, ?_⟩) (by assumption) ?_
        rotate_left
        · intro w hSw; (try dsimp only at hSw); go_simp; (try with_reducible rfl)
        try simp only [Act.put, List.setIfInBounds_toArray, List.set_cons_zero, List.set_cons_succ]
        refine take_d (i := 2) (d := 32) (v := ?_) rfl rfl (by kernel_rfl) (by kernel_rfl) (by kernel_rfl) (fun _ _ _ h => h) (Or.inl ⟨by rfl, ?_⟩) (by assumption) ?_
        rotate_left
        · intro w hSw; (try dsimp only at hSw); go_simp; (try with_reducible rfl)
        try simp only [Act.put, List.setIfInBounds_toArray, List.set_cons_zero, List.set_cons_succ]
        refine wpAnyH_ready (rs := [1, 3]) (by kernel_rfl) (by simp) ?_
        refine AllReadyH.cons rfl (fun K hK => ?_) (AllReadyH.cons rfl (fun K hK => ?_) AllReadyH.nil)
        · go_simp
          (try go_wp2_with fail)
          refine hK.out _ _ ⟨ff0, ff1, ff2, ff3, ff4, ff5, ff6⟩ (fun _hH => ?_)
          clear hK K
          try simp only [Act.put, List.setIfInBounds_toArray, List.set_cons_zero, List.set_cons_succ]
          refine wpAnyH_ready (rs := [3]) (by kernel_rfl) (by simp) ?_
          refine AllReadyH.cons rfl (fun K hK => ?_) AllReadyH.nil
          go_simp
          go_at_call 28
          refine (Hc.out).mono ?_
          rintro e w1 ⟨x1, rfl, hx1, t1⟩
          obtain ⟨⟨k3, nm3, ⟨vk3, vn3, vt3⟩, op3⟩, A3, m3, c3⟩ := x1
          have mm0 := t1.cell ff0 (by simp)
          have mm1 := t1.cell ff1 (by simp)
          have mm2 := t1.cell ff2 (by simp)
          have mm3 := t1.cell ff3 (by simp)
          have mm4 := t1.cell ff4 (by simp)
          have mm5 := t1.cell ff5 (by simp)
          have mm6 := t1.cell ff6 (by simp)
          have z1 := t1.cell z0 (by simp)
          have tn := (Touch.refl [] w1).alloc (.cells #[.int .i64 k3, .string nm3, .string op3, .int .i64 vk3, .int .i64 vn3, .string vt3, .slice A3 m3 c3] 61)
          have z2 := tn.cell z1 (by simp)
          have q0 := tn.cell mm0 (by simp)
          have q1 := tn.cell mm1 (by simp)
          have q2 := tn.cell mm2 (by simp)
          have q3 := tn.cell mm3 (by simp)
          have q4 := tn.cell mm4 (by simp)
          have q5 := tn.cell mm5 (by simp)
          have q6 := tn.cell mm6 (by simp)
          have hown1 := (hown.touch0 Ta.out).touch0 t1
          have s1 := t1.size
          (try go_wp2_with fail)
          refine hK.out _ _ ⟨mm0, mm1, mm2, mm3, mm4, mm5, mm6⟩ (fun _hH => ?_)
          clear hK K
          try simp only [Act.put, List.setIfInBounds_toArray, List.set_cons_zero, List.set_cons_succ]
          refine wpAnyH_ready (rs := [4]) (by kernel_rfl) (by simp) ?_
          refine AllReadyH.cons rfl (fun K hK => ?_) AllReadyH.nil
          go_simp
          (try go_wp2_with fail)
          refine hK.out _ _ ⟨q0, q1, q2, q3, q4, q5, q6⟩ (fun _hH => ?_)
          clear hK K
          try simp only [Act.put, List.setIfInBounds_toArray, List.set_cons_zero, List.set_cons_succ]
          refine wpAnyH_ready (rs := [5]) (by kernel_rfl) (by simp) ?_
          refine AllReadyH.cons rfl (fun K hK => ?_) AllReadyH.nil
          refine step_appX xcR_length xcR_one rfl (.tmp 31) (.tmp 34) 59 (by rfl) 61 _ 96 info_rexpr Try.underlying59 rfl (by omega) (w.heap.size + 3) n B j cB (args.take j) Htl.out (by rfl) hown1 ⟨⟨k3, nm3, ⟨vk3, vn3, vt3⟩, op3⟩, A3, m3, c3⟩ a (hx1.mono fun b hb => ⟨⟨by have := hb.1; omega, hb.2⟩, fun hm => by have := hBlt b hm; have := hb.1; omega⟩) (by omega) 1 (by rfl) (by omega) rfl ?_
          intro B5 cB5 w5 hown5 ht5 hf5
          have hVB : wr.heap.size ∉ fpo B := fun hm => by have := hBlt _ hm; omega
          have p0 := ht5.cell mm0 hVB
          have p1 := ht5.cell mm1 hVB
          have p2 := ht5.cell mm2 hVB
          have p3 := ht5.cell mm3 hVB
          have p4 := ht5.cell mm4 hVB
          have p5 := ht5.cell mm5 hVB
          have p6 := ht5.cell mm6 hVB
          have hX5 := ht5.blk ((Ta.out.trans0 t1).blk hX (by simp)) hXB
          have hR5 := ht5.blk ((Ta.out.trans0 t1).blk hR (by simp)) hRB
          have T5 := ((ht.trans0 Ta.out).trans0 t1).trans ht5 (fun b hb => .inr (by have := hBlo b hb; omega))
          have z5 := cell_blk hX5 (i := 6) rfl
          have f5 : w5.frozen? ⟨w.heap.size + 1 + 1, 6, none⟩ = false := by simp [World.frozen?, hX5]
          have t7 := (Touch.refl [w.heap.size + 1 + 1] w5).setCell (p := ⟨w.heap.size + 1 + 1, 6, none⟩) (.inl (by simp)) (.slice B5 (j + 1) cB5)
          have r0 := t7.cell p0 (by simp; omega)
          have r1 := t7.cell p1 (by simp; omega)
          have r2 := t7.cell p2 (by simp; omega)
          have r3 := t7.cell p3 (by simp; omega)
          have r4 := t7.cell p4 (by simp; omega)
          have r5 := t7.cell p5 (by simp; omega)
          have r6 := t7.cell p6 (by simp; omega)
          refine hK.out _ _ ⟨p0, p1, p2, p3, p4, p5, p6⟩ (fun _hH => ?_)
          clear hK K
          try simp only [Act.put, List.setIfInBounds_toArray]
          refine take_d (i := 6) (d := 36) (v := ?_) rfl rfl (by kernel_rfl) (by kernel_rfl) (by kernel_rfl) (fun _ _ _ h => h) (Or.inl ⟨by rfl, ?_⟩) (by assumption) ?_
          rotate_left
          · intro w hSw; (try dsimp only at hSw); go_simp; (try with_reducible rfl)
          try simp only [Act.put]
          refine wpAnyH_ready (rs := [7]) (by kernel_rfl) (by simp) ?_
          refine AllReadyH.cons rfl (fun K hK => ?_) AllReadyH.nil
          go_simp
          (try go_wp2_with fail)
          refine hK.out _ _ ⟨r0, r1, r2, r3, r4, r5, r6⟩ (fun _hH => ?_)
          clear hK K
          try simp only [Act.put, List.setIfInBounds_toArray, List.set_cons_zero, List.set_cons_succ]
          refine wpAnyH_done (by kernel_rfl) ?_ _
          go_wp2
          go_roundw
          case rel => exact ⟨j + 1, B5, cB5, by omega, by go_num, set_blk hX5 6 _, (t7.blk hR5 (by simp)), by rw [Hsn.out]; exact hown5.touch t7 (fun b hb => by simp at hb; omega), T5.setCell (p := ⟨w.heap.size + 1 + 1, 6, none⟩) (.inr (by simp only; omega)) _⟩
          case measure => simp [intOf]; omega
        · go_simp
          go_at_call 28
          refine (Hc.out).mono ?_
          rintro e w1 ⟨x1, rfl, hx1, t1⟩
          obtain ⟨⟨k3, nm3, ⟨vk3, vn3, vt3⟩, op3⟩, A3, m3, c3⟩ := x1
          have mm0 := t1.cell ff0 (by simp)
          have mm1 := t1.cell ff1 (by simp)
          have mm2 := t1.cell ff2 (by simp)
          have mm3 := t1.cell ff3 (by simp)
          have mm4 := t1.cell ff4 (by simp)
          have mm5 := t1.cell ff5 (by simp)
          have mm6 := t1.cell ff6 (by simp)
          have z1 := t1.cell z0 (by simp)
          have tn := (Touch.refl [] w1).alloc (.cells #[.int .i64 k3, .string nm3, .string op3, .int .i64 vk3, .int .i64 vn3, .string vt3, .slice A3 m3 c3] 61)
          have z2 := tn.cell z1 (by simp)
          have q0 := tn.cell mm0 (by simp)
          have q1 := tn.cell mm1 (by simp)
          have q2 := tn.cell mm2 (by simp)
          have q3 := tn.cell mm3 (by simp)
          have q4 := tn.cell mm4 (by simp)
          have q5 := tn.cell mm5 (by simp)
          have q6 := tn.cell mm6 (by simp)
          have hown1 := (hown.touch0 Ta.out).touch0 t1
          have s1 := t1.size
          (try go_wp2_with fail)
          refine hK.out _ _ ⟨mm0, mm1, mm2, mm3, mm4, mm5, mm6⟩ (fun _hH => ?_)
          clear hK K
          try simp only [Act.put, List.setIfInBounds_toArray, List.set_cons_zero, List.set_cons_succ]
          refine wpAnyH_ready (rs := [1, 4]) (by kernel_rfl) (by simp) ?_
          refine AllReadyH.cons rfl (fun K hK => ?_) (AllReadyH.cons rfl (fun K hK => ?_) AllReadyH.nil)
          · go_simp
            (try go_wp2_with fail)
            refine hK.out _ _ ⟨mm0, mm1, mm2, mm3, mm4, mm5, mm6⟩ (fun _hH => ?_)
            clear hK K
            try simp only [Act.put, List.setIfInBounds_toArray, List.set_cons_zero, List.set_cons_succ]
            refine wpAnyH_ready (rs := [4]) (by kernel_rfl) (by simp) ?_
            refine AllReadyH.cons rfl (fun K hK => ?_) AllReadyH.nil
            go_simp
            (try go_wp2_with fail)
            refine hK.out _ _ ⟨q0, q1, q2, q3, q4, q5, q6⟩ (fun _hH => ?_)
            clear hK K
            try simp only [Act.put, List.setIfInBounds_toArray, List.set_cons_zero, List.set_cons_succ]
            refine wpAnyH_ready (rs := [5]) (by kernel_rfl) (by simp) ?_
            refine AllReadyH.cons rfl (fun K hK => ?_) AllReadyH.nil
            refine step_appX xcR_length xcR_one rfl (.tmp 31) (.tmp 34) 59 (by rfl) 61 _ 96 info_rexpr Try.underlying59 rfl (by omega) (w.heap.size + 3) n B j cB (args.take j) Htl.out (by rfl) hown1 ⟨⟨k3, nm3, ⟨vk3, vn3, vt3⟩, op3⟩, A3, m3, c3⟩ a (hx1.mono fun b hb => ⟨⟨by have := hb.1; omega, hb.2⟩, fun hm => by have := hBlt b hm; have := hb.1; omega⟩) (by omega) 1 (by rfl) (by omega) rfl ?_
            intro B5 cB5 w5 hown5 ht5 hf5
            have hVB : wr.heap.size ∉ fpo B := fun hm => by have := hBlt _ hm; omega
            have p0 := ht5.cell mm0 hVB
            have p1 := ht5.cell mm1 hVB
            have p2 := ht5.cell mm2 hVB
            have p3 := ht5.cell mm3 hVB
            have p4 := ht5.cell mm4 hVB
            have p5 := ht5.cell mm5 hVB
            have p6 := ht5.cell mm6 hVB
            have hX5 := ht5.blk ((Ta.out.trans0 t1).blk hX (by simp)) hXB
            have hR5 := ht5.blk ((Ta.out.trans0 t1).blk hR (by simp)) hRB
            have T5 := ((ht.trans0 Ta.out).trans0 t1).trans ht5 (fun b hb => .inr (by have := hBlo b hb; omega))
            have z5 := cell_blk hX5 (i := 6) rfl
            have f5 : w5.frozen? ⟨w.heap.size + 1 + 1, 6, none⟩ = false := by simp [World.frozen?, hX5]
            have t7 := (Touch.refl [w.heap.size + 1 + 1] w5).setCell (p := ⟨w.heap.size + 1 + 1, 6, none⟩) (.inl (by simp)) (.slice B5 (j + 1) cB5)
            have r0 := t7.cell p0 (by simp; omega)
            have r1 := t7.cell p1 (by simp; omega)
            have r2 := t7.cell p2 (by simp; omega)
            have r3 := t7.cell p3 (by simp; omega)
            have r4 := t7.cell p4 (by simp; omega)
            have r5 := t7.cell p5 (by simp; omega)
            have r6 := t7.cell p6 (by simp; omega)
            refine hK.out _ _ ⟨p0, p1, p2, p3, p4, p5, p6⟩ (fun _hH => ?_)
            clear hK K
            try simp only [Act.put, List.setIfInBounds_toArray]
            refine take_d (i := 6) (d := 36) (v := ?_) rfl rfl (by kernel_rfl) (by kernel_rfl) (by kernel_rfl) (fun _ _ _ h => h) (Or.inl ⟨by rfl, ?_⟩) (by assumption) ?_
            rotate_left
            · intro w hSw; (try dsimp only at hSw); go_simp; (try with_reducible rfl)
            try simp only [Act.put]
            refine wpAnyH_ready (rs := [7]) (by kernel_rfl) (by simp) ?_
            refine AllReadyH.cons rfl (fun K hK => ?_) AllReadyH.nil
            go_simp
            (try go_wp2_with fail)
            refine hK.out _ _ ⟨r0, r1, r2, r3, r4, r5, r6⟩ (fun _hH => ?_)
            clear hK K
            try simp only [Act.put, List.setIfInBounds_toArray, List.set_cons_zero, List.set_cons_succ]
            refine wpAnyH_done (by kernel_rfl) ?_ _
            go_wp2
            go_roundw
            case rel => exact ⟨j + 1, B5, cB5, by omega, by go_num, set_blk hX5 6 _, (t7.blk hR5 (by simp)), by rw [Hsn.out]; exact hown5.touch t7 (fun b hb => by simp at hb; omega), T5.setCell (p := ⟨w.heap.size + 1 + 1, 6, none⟩) (.inr (by simp only; omega)) _⟩
            case measure => simp [intOf]; omega
          · go_simp
            (try go_wp2_with fail)
            refine hK.out _ _ ⟨q0, q1, q2, q3, q4, q5, q6⟩ (fun _hH => ?_)
            clear hK K
            try simp only [Act.put, List.setIfInBounds_toArray, List.set_cons_zero, List.set_cons_succ]
            refine wpAnyH_ready (rs := [1]) (by kernel_rfl) (by simp) ?_
            refine AllReadyH.cons rfl (fun K hK => ?_) AllReadyH.nil
            go_simp
            (try go_wp2_with fail)
            refine hK.out _ _ ⟨q0, q1, q2, q3, q4, q5, q6⟩ (fun _hH => ?_)
            clear hK K
            try simp only [Act.put, List.setIfInBounds_toArray, List.set_cons_zero, List.set_cons_succ]
            refine wpAnyH_ready (rs := [5]) (by kernel_rfl) (by simp) ?_
            refine AllReadyH.cons rfl (fun K hK => ?_) AllReadyH.nil
            refine step_appX xcR_length xcR_one rfl (.tmp 31) (.tmp 34) 59 (by rfl) 61 _ 96 info_rexpr Try.underlying59 rfl (by omega) (w.heap.size + 3) n B j cB (args.take j) Htl.out (by rfl) hown1 ⟨⟨k3, nm3, ⟨vk3, vn3, vt3⟩, op3⟩, A3, m3, c3⟩ a (hx1.mono fun b hb => ⟨⟨by have := hb.1; omega, hb.2⟩, fun hm => by have := hBlt b hm; have := hb.1; omega⟩) (by omega) 1 (by rfl) (by omega) rfl ?_
            intro B5 cB5 w5 hown5 ht5 hf5
            have hVB : wr.heap.size ∉ fpo B := fun hm => by have := hBlt _ hm; omega
            have p0 := ht5.cell mm0 hVB
            have p1 := ht5.cell mm1 hVB
            have p2 := ht5.cell mm2 hVB
            have p3 := ht5.cell mm3 hVB
            have p4 := ht5.cell mm4 hVB
            have p5 := ht5.cell mm5 hVB
            have p6 := ht5.cell mm6 hVB
            have hX5 := ht5.blk ((Ta.out.trans0 t1).blk hX (by simp)) hXB
            have hR5 := ht5.blk ((Ta.out.trans0 t1).blk hR (by simp)) hRB
            have T5 := ((ht.trans0 Ta.out).trans0 t1).trans ht5 (fun b hb => .inr (by have := hBlo b hb; omega))
            have z5 := cell_blk hX5 (i := 6) rfl
            have f5 : w5.frozen? ⟨w.heap.size + 1 + 1, 6, none⟩ = false := by simp [World.frozen?, hX5]
            have t7 := (Touch.refl [w.heap.size + 1 + 1] w5).setCell (p := ⟨w.heap.size + 1 + 1, 6, none⟩) (.inl (by simp)) (.slice B5 (j + 1) cB5)
            have r0 := t7.cell p0 (by simp; omega)
            have r1 := t7.cell p1 (by simp; omega)
            have r2 := t7.cell p2 (by simp; omega)
            have r3 := t7.cell p3 (by simp; omega)
            have r4 := t7.cell p4 (by simp; omega)
            have r5 := t7.cell p5 (by simp; omega)
            have r6 := t7.cell p6 (by simp; omega)
            refine hK.out _ _ ⟨p0, p1, p2, p3, p4, p5, p6⟩ (fun _hH => ?_)
            clear hK K
            try simp only [Act.put, List.setIfInBounds_toArray]
            refine take_d (i := 6) (d := 36) (v := ?_) rfl rfl (by kernel_rfl) (by kernel_rfl) (by kernel_rfl) (fun _ _ _ h => h) (Or.inl ⟨by rfl, ?_⟩) (by assumption) ?_
            rotate_left
            · intro w hSw; (try dsimp only at hSw); go_simp; (try with_reducible rfl)
            try simp only [Act.put]
            refine wpAnyH_ready (rs := [7]) (by kernel_rfl) (by simp) ?_
            refine AllReadyH.cons rfl (fun K hK => ?_) AllReadyH.nil
            go_simp
            (try go_wp2_with fail)
            refine hK.out _ _ ⟨r0, r1, r2, r3, r4, r5, r6⟩ (fun _hH => ?_)
            clear hK K
            try simp only [Act.put, List.setIfInBounds_toArray, List.set_cons_zero, List.set_cons_succ]
            refine wpAnyH_done (by kernel_rfl) ?_ _
            go_wp2
            go_roundw
            case rel => exact ⟨j + 1, B5, cB5, by omega, by go_num, set_blk hX5 6 _, (t7.blk hR5 (by simp)), by rw [Hsn.out]; exact hown5.touch t7 (fun b hb => by simp at hb; omega), T5.setCell (p := ⟨w.heap.size + 1 + 1, 6, none⟩) (.inr (by simp only; omega)) _⟩
            case measure => simp [intOf]; omega
      · obtain rfl : j = args.length := by omega
        rw [List.take_length] at hown
        have H7 := Lib.hid (fun (v0 v1 v2 v3 v4 v5 v6 : Value) => out7 hR v0 v1 v2 v3 v4 v5 v6)
        obtain ⟨d0, d1, d2, d3, d4, d5, d6, _⟩ := blk7 hX
        obtain ⟨e0, e1, e2, e3, e4, e5, e6, g0, g1, g2, g3, g4, g5, g6⟩ := blk7 hR
        go_wp2
        obtain ⟨q1, q2⟩ := H7.out (.int .i64 k) (.string nm) (.string op) (.int .i64 vk) (.int .i64 vn) (.string vt) (.slice B args.length cB)
        refine bodyPost_ret (results_cell_row rfl _ _ (w.heap.size + 1) _ _ _ _ rfl q1 Try.underlying61 rfl rfl) rfl ⟨⟨⟨k, nm, ⟨vk, vn, vt⟩, op⟩, B, args.length, cB⟩, rfl, ?_, ht.trans q2 (fun b hb => .inr (by simp at hb; omega))⟩
        have hT := (hown.touch q2 (fun b hb => by simp at hb; omega)).tree ⟨k, nm, ⟨vk, vn, vt⟩, op⟩ args.length rfl
        rw [H1.out] at hT ⊢
        exact hT.mono fun b hb => ⟨by have := hb.1; omega, hb.2⟩
end Go.Proofs.Ytlkckkagoommaaa
