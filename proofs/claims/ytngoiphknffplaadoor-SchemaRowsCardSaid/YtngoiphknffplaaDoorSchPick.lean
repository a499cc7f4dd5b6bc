/- schema.Schema.Pick: some columns by their names. For every schema and names. -/
import Derived.Test.YtngoiphknffplaaDoorSchFind
namespace Go.Proofs.YtngoiphknffplaaDoor
open Go.RowKit

/-- a name's cell -/
def sbE (s : ByteArray) : List Value := [.string s]
theorem sbE_length (s : ByteArray) : (sbE s).length = 1 := rfl
theorem RdKS.at_ {w : World} {A : Option Addr} {l : List ByteArray} (h : RdK sbE w A l) (i : Nat) (hi : i < l.length) : ∃ ad, A = some ad ∧ w.cell? (ad.add i) = some (.string l[i]) := by
  obtain ⟨ad, b, off, h1, h2, _, h3⟩ := RdK.at_ h 1 sbE_length (by omega) i hi
  rw [Nat.mul_one] at h2
  exact ⟨ad, h1, by rw [h2]; exact h3 0 _ rfl⟩
theorem info_col : (Tryd.prog.info? 38).map (fun i => (i.zero, i.size, i.bytes)) = some (some (.agg #[.string ⟨#[]⟩, .int .i64 0]), 2, 24) := by kernel_rfl

theorem getD_lt {α : Type} (l : List α) (d : α) {k : Nat} (h : k < l.length) : l.getD k d = l[k] := by simp [List.getD, List.getElem?_eq_getElem h]
/-- the place of a name; the column there -/
def pkK (cs : List CD) (s : ByteArray) : Nat := (placeV cs s).getD 0
def pkC (cs : List CD) (s : ByteArray) : CD := cs.getD (pkK cs s) ⟨⟨#[]⟩, 0⟩
def pkOk (cs : List CD) (s : ByteArray) : Bool := (placeV cs s).isSome
/-- what is picked -/
def pickC (cs : List CD) (names : List ByteArray) : List CD := names.map (pkC cs)
def pickK (cs : List CD) (names : List ByteArray) : List Int := names.map fun s => (pkK cs s : Int)

/-- the outcome of Pick -/
def PickPost (cs : List CD) (names : List ByteArray) (w : World) (e : Ending) (w' : World) : Prop :=
  if names.all (pkOk cs) = false then e = .returned (.tuple #[.slice none 0 0, .slice none 0 0, .int .i64 13]) ∧ Touch [] w w'
  else if checkV (pickC cs names) = 0 then ∃ A1 c1 A2 c2, e = .returned (.tuple #[.slice A1 names.length c1, .slice A2 names.length c2, .int .i64 0]) ∧ Made 38 2 cdE (pickC cs names) A1 c1 w w' ∧ Made 3 1 inE (pickK cs names) A2 c2 w w'
  else e = .returned (.tuple #[.slice none 0 0, .slice none 0 0, .int .i64 (checkV (pickC cs names))]) ∧ Touch [] w w'

theorem pickC_ok {cs : List CD} (hok : ∀ c ∈ cs, c.Ok) (names : List ByteArray) (h : names.all (pkOk cs) = true) : ∀ c ∈ pickC cs names, c.Ok := by
  intro c hc
  obtain ⟨s, hs, rfl⟩ := List.mem_map.1 hc
  have h1 := List.all_eq_true.1 h s hs
  unfold pkOk at h1
  obtain ⟨k, hk⟩ := Option.isSome_iff_exists.1 h1
  have hl := placeV_lt hk
  unfold pkC pkK
  rw [hk]
  simp only [Option.getD_some]
  rw [getD_lt _ _ hl]
  exact hok _ (List.getElem_mem hl)

set_option maxRecDepth 20000 in
set_option maxHeartbeats 3200000 in
theorem pick_any (A : Option Addr) (cap n : Nat) (cs : List CD) (hn : cs.length = n) (hok : ∀ c ∈ cs, c.Ok) (B : Option Addr) (bcap m : Nat) (names : List ByteArray) (hm : names.length = m) (w : World) (h : ColsAt w A cs) (hB : RdK sbE w B names) (hl : n ≤ 140737000000000) (hl2 : m ≤ 100000000) :
    Calls Tryd.prog 18 #[.slice A n cap, .slice B m bcap] w fun e w' => PickPost cs names w e w' := by
  subst hn hm
  go_enter Tryd.func18, Tryd.ntmps18
  go_wp2
  go_loopw [7, 8, 16] (fun v u i wr => ∃ (k : Nat) (A1 A2 : Option Addr) (c1 c2 : Nat), k ≤ names.length ∧ i = .int .i64 k ∧ v = .slice A1 k c1 ∧ u = .slice A2 k c2 ∧ Hid ((names.take k).all (pkOk cs) = true) ∧
      Made 38 2 cdE (pickC cs (names.take k)) A1 c1 w wr ∧ Made 3 1 inE (pickK cs (names.take k)) A2 c2 w wr ∧ ∀ b ∈ fpo A1, b ∉ fpo A2) (fun _ _ i _ => names.length - (intOf i).toNat)
  case atStart => exact ⟨0, none, none, 0, 0, by omega, rfl, rfl, rfl, Lib.hid rfl, Made.nil _ _ _ _, Made.nil _ _ _ _, by simp [fpo]⟩
  case round =>
    obtain ⟨k, A1, A2, c1, c2, hk, rfl, rfl, rfl, Hall, hm1, hm2, hdis⟩ := hrel
    have ht := hm1.t
    by_cases hlt : k < names.length
    · obtain ⟨bd, rfl, d0⟩ := RdKS.at_ (hB.touch0 ht) k hlt
      have hno := all_no (p := pkOk cs) hlt
      have hyes := all_snoc (p := pkOk cs) hlt Hall.out
      have hs1 : pickC cs (names.take (k + 1)) = pickC cs (names.take k) ++ [pkC cs names[k]] := by unfold pickC; rw [List.take_succ_eq_append_getElem hlt, List.map_append]; rfl
      have hs2 : pickK cs (names.take (k + 1)) = pickK cs (names.take k) ++ [(pkK cs names[k] : Int)] := by unfold pickK; rw [List.take_succ_eq_append_getElem hlt, List.map_append]; rfl
      obtain ⟨s, hs⟩ : ∃ s, s = names[k] := ⟨_, rfl⟩
      rw [← hs] at d0 hno hyes hs1 hs2
      have hfind := findC_any A cap cs.length cs rfl s wr (h.touch0 ht) hl
      rcases hp : placeV cs s with _ | j
      · rw [hp] at hfind
        have Hfind := Lib.hid hfind
        have Hf := Lib.hid (hno (by unfold pkOk; rw [hp]; rfl))
        clear hfind hno hyes hs1 hs2 hs hp Hall
        go_wp2_with (go_at_call 22; refine Hfind.out.mono ?_; rintro e w1 ⟨rfl, t1⟩)
        go_ret3
        unfold PickPost
        rw [if_pos Hf.out]
        exact ⟨rfl, ht.trans0 t1⟩
      · rw [hp] at hfind
        have hjl := placeV_lt hp
        have hpk : pkK cs s = j := by unfold pkK; rw [hp]; rfl
        have hpc : pkC cs s = cs[j] := by unfold pkC; rw [hpk, getD_lt _ _ hjl]
        have Hfind := Lib.hid hfind
        have Ha := Lib.hid (hyes (by unfold pkOk; rw [hp]; rfl))
        rw [hpc] at hs1
        rw [hpk] at hs2
        have Hs1 := Lib.hid hs1; have Hs2 := Lib.hid hs2
        have Hl1 := Lib.hid (show (pickC cs (names.take k)).length = k by unfold pickC; rw [List.length_map, List.length_take]; omega)
        have Hl2 := Lib.hid (show (pickK cs (names.take k)).length = k by unfold pickK; rw [List.length_map, List.length_take]; omega)
        clear hfind hno hyes hs1 hs2 hs hp Hall hpc hpk
        go_wp2_with fail
        refine Hfind.out.mono ?_
        rintro e w1 ⟨rfl, t1⟩
        obtain ⟨ad, b, off, rfl, hadd, f0, f1⟩ := (h.touch0 (ht.trans0 t1)).at_ j hjl
        obtain ⟨c, hc⟩ : ∃ c, c = cs[j] := ⟨_, rfl⟩
        rw [← hc] at f0 f1 Hs1
        have hm1' := hm1.touch0 t1
        have hm2' := hm2.touch0 t1
        have ta := (Touch.refl [] w1).alloc (.cells #[.string c.name, .int .i64 c.typ] 38)
        clear hc
        go_wp2_with (at_builtin; refine stop ?_)
        refine go ?_
        refine wpList_appK rfl (.tmp 28) (.tmp 33) 24 rfl 38 _ 2 24 info_col Tryd.underlying24 rfl (by omega) cdE_length cdE_one A1 k c1 _ Hl1.out rfl (hm1'.own.touch0 ta)
          (some ⟨w1.heap.size, 0, none⟩) 1 1 [c] rfl rfl (RdK.one (enc := cdE) w1 38 c #[.string c.name, .int .i64 c.typ] rfl) (by omega) (by omega) ?_
        intro A3 c3 w3 hown3 ht3 hf3
        have hn1 := (hm1'.touch0 ta).step hown3 ht3 hf3
        have hd2 : ∀ b ∈ fpo A2, b ∉ fpo A1 := fun b hb hb1 => hdis b hb1 hb
        have hn2 : Made 3 1 inE (pickK cs (names.take k)) A2 c2 w w3 := ⟨(hm2'.touch0 ta).own.touch ht3 hd2, hn1.t, hm2.f⟩
        have tb := (Touch.refl [] w3).alloc (.cells #[.int .i64 (j : Int)] 3)
        have hlt2 := (hm2'.touch0 ta).own.lt
        have hdis3 : ∀ b ∈ fpo A3, b ∉ fpo A2 := fun b hb hb2 => by
          rcases hf3 b hb with e | e
          · exact hdis b e hb2
          · have := hlt2 b hb2; omega
        go_wp2_with (at_builtin; refine stop ?_)
        refine go ?_
        refine wpList_appK rfl (.tmp 35) (.tmp 37) 36 rfl 3 _ 1 8 info_int Tryd.underlying36 rfl (by omega) inE_length inE_one A2 k c2 _ Hl2.out rfl (hn2.own.touch0 tb)
          (some ⟨w3.heap.size, 0, none⟩) 1 1 [(j : Int)] rfl rfl (RdK.one (enc := inE) w3 3 (j : Int) #[.int .i64 (j : Int)] rfl) (by omega) (by omega) ?_
        intro A4 c4 w4 hown4 ht4 hf4
        have hq2 := (hn2.touch0 tb).step hown4 ht4 hf4
        have hq1 : Made 38 2 cdE (pickC cs (names.take k) ++ [c]) A3 c3 w w4 := ⟨(hn1.touch0 tb).own.touch ht4 hdis3, hq2.t, hn1.f⟩
        have hlt3 := (hn1.touch0 tb).own.lt
        go_wp2
        go_roundw
        case rel => exact ⟨k + 1, A3, A4, c3, c4, by omega, by go_num, rfl, rfl, Ha, by rw [Hs1.out]; exact hq1, by rw [Hs2.out]; exact hq2, fun b hb hb4 => by
          rcases hf4 b hb4 with e | e
          · exact hdis3 b hb e
          · have := hlt3 b hb; omega⟩
        case measure => simp [intOf]; omega
    · obtain rfl : k = names.length := by omega
      rw [List.take_length] at hm1 hm2
      have hall := Hall.out
      rw [List.take_length] at hall
      have hlen : (pickC cs names).length = names.length := by unfold pickC; rw [List.length_map]
      have hchk := check_any A1 c1 names.length (pickC cs names) hlen (pickC_ok hok names hall) wr hm1.own.rd (by omega)
      have Hall2 := Lib.hid hall
      clear Hall hall hlen
      by_cases hc : checkV (pickC cs names) = 0
      · rw [hc] at hchk
        have Hchk := Lib.hid hchk; have Hc := Lib.hid hc
        clear hchk hc
        go_wp2_with (go_at_call 19; refine Hchk.out.mono ?_; rintro e w1 ⟨rfl, t1⟩)
        go_ret3
        unfold PickPost
        rw [if_neg (by rw [Hall2.out]; simp), if_pos Hc.out]
        exact ⟨A1, c1, A2, c2, rfl, hm1.touch0 t1, hm2.touch0 t1⟩
      · have Hchk := Lib.hid hchk; have Hc := Lib.hid hc
        obtain ⟨E, hE⟩ : ∃ E, E = checkV (pickC cs names) := ⟨_, rfl⟩
        have HE := Lib.hid hE
        have hq : (E == 0) = false := by rw [beq_eq_false_iff_ne, hE]; exact hc
        have hq' : (E != 0) = true := by rw [bne, hq]; rfl
        clear hchk hc hE
        go_wp2_with (go_at_call 19; refine Hchk.out.mono ?_; rintro e w1 ⟨rfl, t1⟩; rw [← HE.out])
        go_ret3
        unfold PickPost
        rw [if_neg (by rw [Hall2.out]; simp), if_neg Hc.out, HE.out]
        exact ⟨rfl, ht.trans0 t1⟩
end Go.Proofs.YtngoiphknffplaaDoor
