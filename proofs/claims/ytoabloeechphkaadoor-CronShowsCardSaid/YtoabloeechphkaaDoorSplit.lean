/- strings.SplitSeq: its contract, as an iterator that writes a variable of its own. For every text and every separator of some bytes. -/
import Derived.Test.YtoabloeechphkaaDoorRange
import Derived.Test.YtoabloeechphkaaDoorShelf
import Derived.Test.YtoabloeechphkaaDoorSchP
namespace Go.Proofs.YtoabloeechphkaaDoor
open Go.RowKit Go.Shelf

attribute [local go_sem] Oper.semAt_some

theorem S_ext2 (l : List UInt8) (i j : Nat) : (S l).extract i j = S ((l.take j).drop i) := by
  apply ByteArray.ext
  simp [S, ByteArray.data_extract, List.drop_take]
/-- s[:i] -/
theorem run_cutL (l : List UInt8) (n : Nat) (hn : n ≤ l.length) (w : World) : (Instr.slice 9 (.string (S l)) none (some (.int .i64 (n : Int))) none).run Tryd.prog w = .ok (.string (S (l.take n))) w := by
  rw [run_slice_string_h (P := Tryd.prog) w 9 (S l) Tryd.underlying9 .i64 (n : Int) (by omega) (by rw [S_size]; omega), Int.toNat_natCast, S_ext2]
  simp
/-- s[i:] -/
theorem run_cutR (l : List UInt8) (n : Nat) (k : Int) (hk : k = (n : Int)) (hn : n ≤ l.length) (w : World) : (Instr.slice 9 (.string (S l)) (some (.int .i64 k)) none none).run Tryd.prog w = .ok (.string (S (l.drop n))) w := by
  subst hk
  rw [run_slice_string_l (P := Tryd.prog) w 9 (S l) Tryd.underlying9 .i64 (n : Int) (by omega) (by rw [S_size]; omega), Int.toNat_natCast, S_ext2, S_size, List.take_length]

theorem index_le (r sep : List UInt8) (h : Lib.index r sep ≠ -1) : ∃ i : Nat, Lib.index r sep = i ∧ i + sep.length ≤ r.length := by
  have h1 := Lib.index_ge r sep
  have h2 := Lib.index_room r sep (by omega)
  exact ⟨(Lib.index r sep).toNat, by omega, by omega⟩
theorem split_last {sep : List UInt8} {f : Nat} {r : List UInt8} (h : Lib.index r sep = -1) : splitF sep f r = [r] := by
  cases f with
  | zero => rfl
  | succ f => unfold splitF; rw [if_pos h]
theorem split_step {sep : List UInt8} {f i : Nat} {r : List UInt8} (h : Lib.index r sep = i) (hs : 0 < sep.length) (hi : i + sep.length ≤ r.length) (hf : r.length ≤ f) :
    ∃ f', splitF sep f r = r.take i :: splitF sep f' (r.drop (i + sep.length)) ∧ (r.drop (i + sep.length)).length ≤ f' ∧ (r.drop (i + sep.length)).length < r.length := by
  cases f with
  | zero => omega
  | succ f =>
    refine ⟨f, ?_, by rw [List.length_drop]; omega, by rw [List.length_drop]; omega⟩
    show (if _ then _ else _) = _
    rw [if_neg (by omega), h, Int.toNat_natCast]

/-- what the iterator does with its variable -/
def StepS (Bs : Nat) (A A' : World) : Prop := ∃ v, A' = A.setCell ⟨Bs, 0, none⟩ v
/-- behind these pieces comes this one -/
def NextP (parts pre : List (List UInt8)) (x : List UInt8) : Prop := ∃ rest, parts = pre ++ x :: rest

set_option maxRecDepth 100000 in
set_option maxHeartbeats 3200000 in
theorem split1_in (sep : List UInt8) (hs0 : 0 < sep.length) (hs1 : sep.length ≤ 1000) (Bp Bs Bz : Nat) (hps : Bp ≠ Bs) (hzs : Bz ≠ Bs) (hgs : (5 : Nat) ≠ Bs) (s : List UInt8) (hsl : s.length ≤ 1000000) (n : Nat) (hn : 1 ≤ n)
    (l : Nat) (J Jx : List (List UInt8) → World → Prop) (w W : World) (hkp : KpB [Bp, Bs, Bz, 5] w W) (hJR : ∀ s A A', StepS Bs A A' → J s A → J s A')
    (hp : w.cell? ⟨Bp, 0, none⟩ = some (.string (S sep))) (hs : w.cell? ⟨Bs, 0, none⟩ = some (.string (S s))) (hsf : w.frozen? ⟨Bs, 0, none⟩ = false) (hz : w.cell? ⟨Bz, 0, none⟩ = some (.int .i64 0)) (m : Int) (hm : w.cell? ⟨5, 0, none⟩ = some (.int .i64 m))
    (hY : ∀ pre x W1, J pre W1 → NextP (splitV s sep) pre x → YieldAt Fence.wide (n - 1) Tryd.prog l #[.string (S x)] W1 fun e W' =>
      (e = .returned (.bool true) ∧ J (pre ++ [x]) W' ∧ KpB [Bp, Bs, Bz, 5] W1 W') ∨ (e = .returned (.bool false) ∧ Jx (pre ++ [x]) W'))
    (h0 : J [] W) :
    CallsIn Fence.wide n Tryd.prog 58 #[.func (.yield l) #[] #[], .pointer (some ⟨Bp, 0, none⟩), .pointer (some ⟨Bs, 0, none⟩), .pointer (some ⟨Bz, 0, none⟩)] W fun e W' => (∃ v, e = .returned v) ∧
      ((∃ xs, xs = splitV s sep ∧ J xs W') ∨ (∃ pre, True ∧ Jx pre W')) := by
  have wp := (hkp.cell (a := ⟨Bp, 0, none⟩) (by simp)).trans hp
  have wsz := S_size sep
  have hne : ((sep.length : Int) == 0) = false := by rw [beq_eq_false_iff_ne]; omega
  refine callsIn_of_wp Tryd.func58 rfl trivial ?_ rfl
  simp only [Tryd.ntmps58, List.size_toArray, List.length_cons, List.length_nil, Nat.reduceAdd, Nat.reduceSub, Array.replicate_succ, Array.replicate_zero, List.push_toArray, List.append_toArray, List.nil_append, List.cons_append]
  gi_wp2
  clear hne
  gi_loopw [7, 8] (fun _ _ wr => ∃ (pre : List (List UInt8)) (r : List UInt8) (f : Nat), splitV s sep = pre ++ splitF sep f r ∧ r.length ≤ f ∧ r.length ≤ s.length ∧ wr.cell? ⟨Bs, 0, none⟩ = some (.string (S r)) ∧ wr.frozen? ⟨Bs, 0, none⟩ = false ∧ J pre wr ∧ KpB [Bp, Bz, 5] w wr)
    (fun _ _ wr => match wr.cell? ⟨Bs, 0, none⟩ with | some (.string x) => x.size | _ => 0)
  case atStart =>
    have hk2 := hkp.cell (a := ⟨Bs, 0, none⟩) (by simp)
    have hk3 := hkp.frozen (a := ⟨Bs, 0, none⟩) (by simp)
    exact ⟨[], s, s.length, rfl, Nat.le_refl _, Nat.le_refl _, hk2.trans hs, hk3.trans hsf, h0, fun k hk => hkp k (by
      simp only [List.mem_cons, List.not_mem_nil, or_false] at hk ⊢
      rcases hk with rfl | rfl | rfl <;> simp)⟩
  case round =>
    obtain ⟨pre, r, f, he, hf, hrs, hcs, hfs, hJ, hk⟩ := hrel
    have wp2 := (hk.cell (a := ⟨Bp, 0, none⟩) (by simp)).trans hp
    have wz2 := (hk.cell (a := ⟨Bz, 0, none⟩) (by simp)).trans hz
    have wm2 := (hk.cell (a := ⟨5, 0, none⟩) (by simp)).trans hm
    have hidx := Tryd.strings_Index (S r) (S sep) m wr (by rw [S_size]; omega) wm2
    rw [S_toList, S_toList] at hidx
    have rsz := S_size r
    clear hs hsf h0 hkp wp
    by_cases hi : Lib.index r sep = -1
    · rw [hi] at hidx
      rw [split_last hi] at he
      obtain ⟨fn, tmps, assign, body, hy, hR⟩ := hY pre r wr hJ ⟨[], he⟩
      have He := Lib.hid he; have Hidx := Lib.hid hidx; have HR := Lib.hid hR
      clear he hi hidx hR hY hJR hp hz hm
      gi_wp2_with fail
      refine ⟨trivial, ?_⟩
      gi_at_call 60
      refine (callsIn_wide.2 Hidx.out).mono ?_
      rintro e w' ⟨rfl, rfl⟩
      gi_wp2
      refine HR.out.mono ?_
      rintro e W3 (⟨rfl, hJ3, hk3⟩ | ⟨rfl, hJx3⟩)
      · gi_wp2
        go_end0
        exact ⟨⟨_, rfl⟩, .inl ⟨_, rfl, by rw [He.out]; exact hJ3⟩⟩
      · gi_wp2
        go_end0
        exact ⟨⟨_, rfl⟩, .inr ⟨_, trivial, hJx3⟩⟩
    · obtain ⟨i, hie, hil⟩ := index_le r sep hi
      obtain ⟨f', hst, hf', hdl⟩ := split_step hie hs0 hil hf
      rw [hie] at hidx
      rw [hst] at he
      obtain ⟨fn, tmps, assign, body, hy, hR⟩ := hY pre (r.take i) wr hJ ⟨_, he⟩
      have hcl := fun W => run_cutL r i (by omega) W
      have hcr := fun W => run_cutR r (i + sep.length) ((i : Int) + sep.length) (by omega) hil W
      have hi0 : (0 : Int) ≤ i := by omega
      have hdz := S_size (r.drop (i + sep.length))
      have He := Lib.hid he; have Hidx := Lib.hid hidx; have HR := Lib.hid hR; have Hdl := Lib.hid hdl; have Hdz := Lib.hid hdz
      clear he hi hidx hR hY hp hz hm hie hst hdl hdz
      gi_wp2_with fail
      refine ⟨trivial, ?_⟩
      gi_at_call 60
      refine (callsIn_wide.2 Hidx.out).mono ?_
      rintro e w' ⟨rfl, rfl⟩
      gi_wp2
      refine HR.out.mono ?_
      rintro e W3 (⟨rfl, hJ3, hk3⟩ | ⟨rfl, hJx3⟩)
      · have c3 := (hk3.cell (a := ⟨Bs, 0, none⟩) (by simp)).trans hcs
        have f3 := (hk3.frozen (a := ⟨Bs, 0, none⟩) (by simp)).trans hfs
        have p3 := (hk3.cell (a := ⟨Bp, 0, none⟩) (by simp)).trans wp2
        gi_wp2
        go_roundw
        case rel => exact ⟨pre ++ [r.take i], r.drop (i + sep.length), f', by rw [He.out]; simp, hf', by have := Hdl.out; omega, World.cell?_setCell_same' _ _ _ (by rw [c3]; rfl), by rw [World.frozen?_setCell]; exact f3, hJR _ _ _ ⟨_, rfl⟩ hJ3, fun k hk4 => by
          have hkb : k ≠ Bs := by
            simp only [List.mem_cons, List.not_mem_nil, or_false] at hk4
            rcases hk4 with rfl | rfl | rfl
            · exact hps
            · exact hzs
            · exact hgs
          refine (Below.heap_setCell W3 ⟨Bs, 0, none⟩ _ k hkb).trans ((hk3 k ?_).trans (hk k hk4))
          simp only [List.mem_cons, List.not_mem_nil, or_false] at hk4 ⊢
          rcases hk4 with rfl | rfl | rfl <;> simp⟩
        case measure =>
          have e1 : (W3.setCell ⟨Bs, 0, none⟩ (.string (S (r.drop (i + sep.length))))).cell? ⟨Bs, 0, none⟩ = some (.string (S (r.drop (i + sep.length)))) := World.cell?_setCell_same' _ _ _ (by rw [c3]; rfl)
          simp only [e1, hcs]
          rw [Hdz.out, rsz]
          exact Hdl.out
      · gi_wp2
        refine bodyPost_ret (results_none rfl _ _ _) rfl ?_
        exact ⟨⟨_, rfl⟩, .inr ⟨_, trivial, hJx3⟩⟩
end Go.Proofs.YtoabloeechphkaaDoor
