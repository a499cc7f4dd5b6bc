/- expr.Expr.typed, Type: an expression's type and error. For every expression and schema. -/
import Derived.Test.YtlkckkagoommaaaFormX
import Derived.Test.YtlkckkagoommaaaFitX
import Derived.Test.YtlkckkagoommaaaSizeX
namespace Go.Proofs.Ytlkckkagoommaaa
open Go.RowKit

theorem info_int : (Try.prog.info? 3).map (fun i => (i.zero, i.size, i.bytes)) = some (some (.int .i64 0), 1, 8) := by kernel_rfl
/-- the type and the error of each of some, as far as all are right -/
theorem typedX_succ (cs : List CD) (n d : Nat) (e : TX (n + 1)) : typedX cs (n + 1) d e =
    (if 32 < d then (0, 52)
    else if formV e.1 e.2.length = false then (0, 20)
    else if e.1.kind = 2 then (e.1.v.kind, 0)
    else if e.1.kind = 1 then (match colT cs e.1.name with | some t => (t, 0) | none => (0, 13))
    else match e.2.find? fun a => decide ((typedX cs n (d + 1) a).2 ≠ 0) with
      | some a => (0, (typedX cs n (d + 1) a).2)
      | none => match ruleV e.1 with
        | none => (0, 20)
        | some r => match fitL r.args (e.2.map fun a => (typedX cs n (d + 1) a).1) 0 with
          | (both, true) => if r.out = -1 then (both, 0) else (r.out, 0)
          | (_, false) => (0, 12) : Int × Int) := rfl
theorem find_hit {α : Type} {p : α → Bool} {l : List α} {k : Nat} (h : k < l.length) (hk : p l[k] = true) (hno : ∀ a ∈ l.take k, p a = false) : l.find? p = some l[k] := by
  rw [List.find?_eq_some_iff_getElem]
  refine ⟨hk, k, h, rfl, fun j hj => ?_⟩
  have := hno l[j] (List.mem_take_iff_getElem.2 ⟨j, by omega, rfl⟩)
  simp [this]
theorem find_miss {α : Type} {p : α → Bool} {l : List α} (hno : ∀ a ∈ l, p a = false) : l.find? p = none := by
  rw [List.find?_eq_none]
  intro a ha
  rw [hno a ha]; simp
/-- what typed promises -/
def TypedSaid (n : Nat) : Prop := ∀ (e : TX n) (x : XC) (A : Option Addr) (cap m : Nat) (cs : List CD) (_ : cs.length = m) (d : Nat) (w : World), ExP xcE anyB n w x e → ColsAt w A cs → m ≤ 140737000000000 → sizeX n e ≤ 1000000 → allX (fun q => q.v.text.size ≤ 140737000000000) n e → d ≤ 1000000000 →
    Calls Try.prog 45 #[x.val, .slice A m cap, .int .i64 d] w fun r w' => r = .returned (.tuple #[.int .i64 (typedX cs n d e).1, .int .i64 (typedX cs n d e).2]) ∧ Touch [] w w'

set_option maxRecDepth 20000 in
set_option maxHeartbeats 6400000 in
theorem typed_any (n : Nat) : TypedSaid n := by
  induction n with
  | zero => intro e; exact e.elim
  | succ n ih =>
    intro e x A cap m cs hm d w hx hcs hmb hs hall hd
    subst hm
    have Hst := Lib.hid (typedX_succ cs n d e)
    obtain ⟨nd, args⟩ := e
    obtain ⟨h1, h2, h3⟩ := hx.args
    obtain ⟨ha1, ha2⟩ := hall
    have hsum : sumX n args ≤ 1000000 := by have hs' : 1 + sumX n args ≤ 1000000 := hs; omega
    have hlen := len_le_sum n args
    dsimp only at h1 h2 h3 ha1 ha2
    subst h1
    have Hform := Lib.hid fun w' => form_any x ha1 w'
    have Hrule := Lib.hid fun w' => rule_any x w'
    have Hfind := Lib.hid fun w' (t : Touch [] w w') => findC_any A cap cs.length cs rfl x.nd.name w' (hcs.touch0 t) hmb
    obtain ⟨⟨k, nm, ⟨vk, vn, vt⟩, op⟩, XA, m, c⟩ := x
    dsimp only at h2 h3 ha1
    subst h2
    simp only [XC.val] at Hform Hrule ⊢
    simp only at Hst Hfind
    have t0 := (Touch.refl [] w).alloc (.cells #[.int .i64 k, .string nm, .int .i64 vk, .int .i64 vn, .string vt, .string op, .slice XA args.length c] 33)
    have hb := heap_alloc_new w (.cells #[.int .i64 k, .string nm, .int .i64 vk, .int .i64 vn, .string vt, .string op, .slice XA args.length c] 33)
    have Hb := Lib.hid hb
    obtain ⟨res, hres⟩ : ∃ res, res = typedX cs (n + 1) d ((⟨k, nm, ⟨vk, vn, vt⟩, op⟩, args) : TX (n + 1)) := ⟨_, rfl⟩
    rw [← hres] at Hst ⊢
    clear hb hx hs hres
    by_cases hd32 : 32 < d
    · have Hf := Lib.hid (show res = (0, 52) by rw [Hst.out, if_pos hd32])
      have hdI : (32 : Int) < (d : Int) := by omega
      go_enter Try.func45, Try.ntmps45
      go_wp2_with fail
      go_ret2
      exact ⟨by rw [Hf.out]; rfl, t0⟩
    have hdI : ¬ (32 : Int) < (d : Int) := by omega
    rcases hfo : formV ⟨k, nm, ⟨vk, vn, vt⟩, op⟩ args.length with _ | _
    · have Hf := Lib.hid (show res = (0, 20) by rw [Hst.out, if_neg hd32, if_pos hfo])
      rw [hfo] at Hform
      clear hfo
      go_enter Try.func45, Try.ntmps45
      go_wp2_with fail
      refine (Hform.out _).mono ?_
      rintro e w1 ⟨rfl, t1⟩
      go_wp2_with fail
      go_ret2
      exact ⟨by rw [Hf.out]; rfl, t0.trans0 t1⟩
    rw [hfo] at Hform
    by_cases hk2 : k = 2
    · have Hf := Lib.hid (show res = (vk, 0) by rw [Hst.out, if_neg hd32, if_neg (by rw [hfo]; simp), if_pos hk2])
      subst hk2
      clear hfo
      go_enter Try.func45, Try.ntmps45
      go_wp2_with fail
      refine (Hform.out _).mono ?_
      rintro e w1 ⟨rfl, t1⟩
      have hb1 := t1.blk Hb.out (by simp)
      obtain ⟨c0, c1, c2, c3, c4, c5, c6, _⟩ := blk7 hb1
      go_wp2_with fail
      go_ret2
      exact ⟨by rw [Hf.out]; rfl, t0.trans0 t1⟩
    have q2 : (k == 2) = false := by simpa using hk2
    by_cases hk1 : k = 1
    · rcases hp : placeV cs nm with _ | q
      · have Hf := Lib.hid (show res = (0, 13) by rw [Hst.out, if_neg hd32, if_neg (by rw [hfo]; simp), if_neg hk2, if_pos hk1]; unfold colT; rw [hp])
        rw [hp] at Hfind
        subst hk1
        clear hfo hp hk2
        go_enter Try.func45, Try.ntmps45
        go_wp2_with fail
        refine (Hform.out _).mono ?_
        rintro e w1 ⟨rfl, t1⟩
        have hb1 := t1.blk Hb.out (by simp)
        obtain ⟨c0, c1, c2, c3, c4, c5, c6, _⟩ := blk7 hb1
        go_wp2_with fail
        refine (Hfind.out _ (t0.trans0 t1)).mono ?_
        rintro e w2 ⟨rfl, t2⟩
        go_wp2_with fail
        go_ret2
        exact ⟨by rw [Hf.out]; rfl, (t0.trans0 t1).trans0 t2⟩
      · have hql := placeV_lt hp
        have Hf := Lib.hid (show res = (cs[q].typ, 0) by rw [Hst.out, if_neg hd32, if_neg (by rw [hfo]; simp), if_neg hk2, if_pos hk1]; unfold colT; rw [hp]; simp only; rw [List.getElem?_eq_getElem hql]; rfl)
        rw [hp] at Hfind
        simp only [Option.getD_some, Option.isSome_some] at Hfind
        subst hk1
        clear hfo hp hk2
        go_enter Try.func45, Try.ntmps45
        go_wp2_with fail
        refine (Hform.out _).mono ?_
        rintro e w1 ⟨rfl, t1⟩
        have hb1 := t1.blk Hb.out (by simp)
        obtain ⟨c0, c1, c2, c3, c4, c5, c6, _⟩ := blk7 hb1
        go_wp2_with fail
        refine (Hfind.out _ (t0.trans0 t1)).mono ?_
        rintro e w2 ⟨rfl, t2⟩
        obtain ⟨ad, b, off, rfl, hadd, f0, f1⟩ := (hcs.touch0 ((t0.trans0 t1).trans0 t2)).at_ q hql
        have hqI : (q : Int) < (cs.length : Int) := by omega
        have hqI0 : (0 : Int) ≤ (q : Int) := by omega
        go_wp2_with fail
        go_ret2
        exact ⟨by rw [Hf.out]; rfl, (t0.trans0 t1).trans0 t2⟩
    have q1 : (k == 1) = false := by simpa using hk1
    have hst2 := Hst.out
    rw [if_neg hd32, if_neg (by rw [hfo]; simp), if_neg hk2, if_neg hk1] at hst2
    -- the rule is there
    have hfr : ∃ r, ruleV ⟨k, nm, ⟨vk, vn, vt⟩, op⟩ = some r ∧ args.length = r.args.length := by
      unfold formV at hfo
      rw [if_neg hk1, if_neg hk2, Bool.and_eq_true] at hfo
      rcases hr : ruleV ⟨k, nm, ⟨vk, vn, vt⟩, op⟩ with _ | r
      · rw [hr] at hfo; cases hfo.1
      · rw [hr] at hfo; exact ⟨r, rfl, of_decide_eq_true hfo.1⟩
    obtain ⟨r, hr, hrl⟩ := hfr
    rw [hr] at hst2
    have Hst2 := Lib.hid hst2
    have Hrl := Lib.hid hrl
    have hrp : ∀ e w1, RulePost ⟨k, nm, ⟨vk, vn, vt⟩, op⟩ args.length e w1 → ∃ B c, e = .returned (.tuple #[.agg #[.string r.name, .slice B args.length c, .int .i64 r.out], .bool true]) ∧ IntsAt w1 B r.args := fun e w1 h => by
      unfold RulePost at h
      rw [hr] at h
      obtain ⟨B, c, he, hi⟩ := h
      exact ⟨B, c, by rw [he, decide_eq_true hrl, hrl], hi⟩
    have Hrp := Lib.hid hrp
    have Ih := Lib.hid ih; have Ha2 := Lib.hid ha2
    clear hst2 hrp hr hrl hfo hk1 hk2 Hst ih ha2 ha1
    go_enter Try.func45, Try.ntmps45
    go_wp2_with fail
    refine (Hform.out _).mono ?_
    rintro e w1 ⟨rfl, t1⟩
    have hb1 := t1.blk Hb.out (by simp)
    obtain ⟨c0, c1, c2, c3, c4, c5, c6, _⟩ := blk7 hb1
    have T1 := t0.trans0 t1
    go_wp2_with fail
    clear c0 c1 c2 c3 c4 c5 c6
    have Hb1 := Lib.hid hb1
    clear hb1
    go_loopw [10, 54] (fun v i wr => ∃ (j : Nat) (B : Option Addr) (cB : Nat), j ≤ args.length ∧ i = .int .i64 j ∧ v = .slice B j cB ∧ Made 3 1 inE ((args.take j).map fun a => (typedX cs n (d + 1) a).1) B cB w1 wr ∧ Hid (∀ a ∈ args.take j, decide ((typedX cs n (d + 1) a).2 ≠ 0) = false)) (fun _ i _ => args.length - (intOf i).toNat)
    case atStart => exact ⟨0, none, 0, by omega, rfl, rfl, Made.nil _ _ _ _, Lib.hid (by simp)⟩
    case round =>
      obtain ⟨j, B, cB, hj, rfl, rfl, hmd, Hno⟩ := hrel
      have T2 := T1.trans0 hmd.t
      by_cases hlt : j < args.length
      · obtain ⟨ad, b, off, y, rfl, hadd, hy, hcell⟩ := (h3.touch0 T2).at_ xcE_length j hlt
        have hsn := List.take_succ_eq_append_getElem hlt
        have hms := size_mem (List.getElem_mem hlt)
        have hay := Ha2.out _ (List.getElem_mem hlt)
        have hhit := find_hit (p := fun a => decide ((typedX cs n (d + 1) a).2 ≠ 0)) hlt
        obtain ⟨a, hae⟩ : ∃ a, a = args[j] := ⟨_, rfl⟩
        rw [← hae] at hy hsn hms hay hhit
        have ta := (Touch.refl [] wr).alloc (.cells #[.int .i64 y.nd.kind, .string y.nd.name, .int .i64 y.nd.v.kind, .int .i64 y.nd.v.num, .string y.nd.v.text, .string y.nd.op, .slice y.A y.n y.c] 33)
        have Hc := Lib.hid (Ih.out a y A cap cs.length cs rfl (d + 1) _ (hy.touch0 ta) (hcs.touch0 (T2.trans0 ta)) hmb (by omega) hay (by omega))
        have Htl := Lib.hid (show ((args.take j).map fun a => (typedX cs n (d + 1) a).1).length = j by rw [List.length_map, List.length_take]; omega)
        have c0 := hcell 0 _ rfl; have c1 := hcell 1 _ rfl; have c2 := hcell 2 _ rfl; have c3 := hcell 3 _ rfl; have c4 := hcell 4 _ rfl; have c5 := hcell 5 _ rfl; have c6 := hcell 6 _ rfl
        rw [Nat.add_zero] at c0
        have Hsn := Lib.hid hsn; have Hhit := Lib.hid hhit
        clear hsn hae hcell hms hay hhit
        obtain ⟨⟨k2, nm2, ⟨vk2, vn2, vt2⟩, op2⟩, A2, m2, c2'⟩ := y
        simp only [XC.val] at Hc
        simp only at c0 c1 c2 c3 c4 c5 c6 ta
        obtain ⟨ty, hty⟩ : ∃ ty, ty = (typedX cs n (d + 1) a).1 := ⟨_, rfl⟩
        obtain ⟨er, her⟩ : ∃ er, er = (typedX cs n (d + 1) a).2 := ⟨_, rfl⟩
        rw [← hty, ← her] at Hc
        have Hty := Lib.hid hty; have Her := Lib.hid her
        clear hty her
        by_cases he0 : er = 0
        · have Hno2 := Lib.hid (show ∀ a ∈ args.take (j + 1), decide ((typedX cs n (d + 1) a).2 ≠ 0) = false from fun a' ha' => by
            rw [Hsn.out] at ha'
            rcases List.mem_append.1 ha' with q | q
            · exact Hno.out a' q
            · rw [List.mem_singleton] at q; rw [q, ← Her.out, he0]; rfl)
          subst he0
          go_wp2_with fail
          refine Hc.out.mono ?_
          rintro e w2 ⟨rfl, t2⟩
          have tb := (Touch.refl [] w2).alloc (.cells #[.int .i64 ty] 3)
          have hmd2 := ((hmd.touch0 ta).touch0 t2).touch0 tb
          go_wp2_with (at_builtin; refine stop ?_)
          refine go ?_
          refine wpList_appK rfl (.tmp 69) (.tmp 71) 106 rfl 3 _ 1 8 info_int Try.underlying106 rfl (by omega) inE_length inE_one B j cB _ Htl.out rfl hmd2.own
            (some ⟨w2.heap.size, 0, none⟩) 1 1 [ty] rfl rfl (RdK.one (enc := inE) w2 3 ty #[.int .i64 ty] rfl) (by omega) (by omega) ?_
          intro B5 cB5 w5 hown5 ht5 hf5
          go_wp2
          go_roundw
          case rel => exact ⟨j + 1, B5, cB5, by omega, by go_num, rfl, by rw [Hsn.out, List.map_append]; simp only [List.map_cons, List.map_nil]; rw [← Hty.out]; exact hmd2.step hown5 ht5 hf5, Hno2⟩
          case measure => simp [intOf]; omega
        · have Hf := Lib.hid (show res = (0, er) by rw [Hst2.out, Hhit.out (by rw [← Her.out]; simpa using he0) Hno.out]; simp only; rw [← Her.out])
          have e0 : (er != 0) = true := by simpa using he0
          clear he0
          go_wp2_with fail
          refine Hc.out.mono ?_
          rintro e w2 ⟨rfl, t2⟩
          go_wp2_with fail
          go_ret2
          exact ⟨by rw [Hf.out]; rfl, (T2.trans0 ta).trans0 t2⟩
      · obtain rfl : j = args.length := by omega
        rw [List.take_length] at hmd Hno
        have hst3 := Hst2.out
        rw [find_miss Hno.out] at hst3
        simp only at hst3
        obtain ⟨bo, hbo⟩ : ∃ bo, bo = fitL r.args (args.map fun a => (typedX cs n (d + 1) a).1) 0 := ⟨_, rfl⟩
        rw [← hbo] at hst3
        have Hst3 := Lib.hid hst3
        have Hfit := Lib.hid fun (B0 : Option Addr) (c0 c0' : Nat) w' hi hj => fit_any B0 B c0 c0' args.length r.args (args.map fun a => (typedX cs n (d + 1) a).1) Hrl.out.symm (by rw [List.length_map]) w' hi hj (by omega)
        rw [← hbo] at Hfit
        clear hst3 hbo
        have hb2 := hmd.t.blk Hb1.out (by simp)
        obtain ⟨c0, c1, c2, c3, c4, c5, c6, _⟩ := blk7 hb2
        go_wp2_with fail
        refine (Hrule.out _).mono ?_
        rintro e w2 ⟨hp, t2⟩
        obtain ⟨B0, d0, rfl, hi⟩ := Hrp.out e w2 hp
        clear c0 c1 c2 c3 c4 c5 c6
        have tb := (Touch.refl [] w2).alloc (.cells #[.string r.name, .slice B0 args.length d0, .int .i64 r.out] 114)
        have hbr := heap_alloc_new w2 (.cells #[.string r.name, .slice B0 args.length d0, .int .i64 r.out] 114)
        obtain ⟨z0, z1, z2, _⟩ := blk3 hbr
        obtain ⟨both, ok⟩ := bo
        simp only at Hst3 Hfit
        have T3 := (T2.trans0 t2).trans0 tb
        cases ok
        · go_wp2_with fail
          refine (Hfit.out B0 d0 cB _ (hi.touch0 tb) ((hmd.touch0 t2).touch0 tb).own.rd).mono ?_
          rintro e w' ⟨rfl, rfl⟩
          go_wp2_with fail
          go_ret2
          exact ⟨by rw [Hst3.out]; rfl, T3⟩
        · by_cases ho : r.out = -1
          · have Hf := Lib.hid (show res = (both, 0) by rw [Hst3.out]; simp only; rw [if_pos ho])
            have q3 : (r.out == -1) = true := by simpa using ho
            clear ho
            go_wp2_with fail
            refine (Hfit.out B0 d0 cB _ (hi.touch0 tb) ((hmd.touch0 t2).touch0 tb).own.rd).mono ?_
            rintro e w' ⟨rfl, rfl⟩
            go_wp2_with fail
            go_ret2
            exact ⟨by rw [Hf.out]; rfl, T3⟩
          · have Hf := Lib.hid (show res = (r.out, 0) by rw [Hst3.out]; simp only; rw [if_neg ho])
            have q3 : (r.out == -1) = false := by simpa using ho
            clear ho
            go_wp2_with fail
            refine (Hfit.out B0 d0 cB _ (hi.touch0 tb) ((hmd.touch0 t2).touch0 tb).own.rd).mono ?_
            rintro e w' ⟨rfl, rfl⟩
            go_wp2_with fail
            go_ret2
            exact ⟨by rw [Hf.out]; rfl, T3⟩
end Go.Proofs.Ytlkckkagoommaaa
