/- bywashref02.Show; schema.Schema.Show: the text of a schema. For every right schema; the other one for every schema. -/
import Derived.Test.YtngoiphknffplaaDoorSchMore
import Derived.Test.YtngoiphknffplaaDoorShelf
import Derived.Deep.RegionHeld3
namespace Go.Proofs.YtngoiphknffplaaDoor
open Go.RowKit

/-- what the package's variables hold -/
structure Gs (w : World) : Prop where
  w0 : w.cell? ⟨0, 0, none⟩ = some (.string ⟨#[]⟩)
  w1 : w.cell? ⟨0, 1, none⟩ = some (.string ⟨#[105, 110, 116]⟩)
  w2 : w.cell? ⟨0, 2, none⟩ = some (.string ⟨#[116, 101, 120, 116]⟩)
  len : ∃ m, w.cell? ⟨1, 0, none⟩ = some (.int .i64 m)
theorem Gs.touch0 {w w' : World} (h : Gs w) (ht : Touch [] w w') : Gs w' :=
  ⟨ht.cell h.w0 (by simp), ht.cell h.w1 (by simp), ht.cell h.w2 (by simp), by obtain ⟨m, hm⟩ := h.len; exact ⟨m, ht.cell hm (by simp)⟩⟩

theorem S_app (a b : List UInt8) : S a ++ S b = S (a ++ b) := by
  apply ByteArray.ext
  simp [S]

theorem joinTail_snoc (sep : List UInt8) (r : List (List UInt8)) (y : List UInt8) : Lib.joinTail sep (r ++ [y]) = Lib.joinTail sep r ++ (sep ++ y) := by simp [Lib.joinTail]
theorem join_snoc (sep : List UInt8) (xs : List (List UInt8)) (y : List UInt8) : Lib.join (xs ++ [y]) sep = if xs = [] then y else Lib.join xs sep ++ (sep ++ y) := by
  cases xs with
  | nil => exact Lib.join_one y sep
  | cons x r =>
    rw [if_neg (by simp), List.cons_append, Lib.join_cons, Lib.join_cons, joinTail_snoc, List.append_assoc]
theorem joinTail_length (sep : List UInt8) (r : List (List UInt8)) (m : Nat) (h : ∀ p ∈ r, p.length ≤ m) : (Lib.joinTail sep r).length ≤ r.length * (m + sep.length) := by
  induction r with
  | nil => simp [Lib.joinTail]
  | cons x r ih =>
    have h1 : Lib.joinTail sep (x :: r) = (sep ++ x) ++ Lib.joinTail sep r := by simp [Lib.joinTail]
    have h2 := ih (fun p hp => h p (by simp [hp]))
    have h3 := h x (by simp)
    rw [h1, List.length_append, List.length_append, List.length_cons, Nat.add_mul]
    omega
theorem join_length (sep : List UInt8) (xs : List (List UInt8)) (m : Nat) (h : ∀ p ∈ xs, p.length ≤ m) : (Lib.join xs sep).length ≤ xs.length * (m + sep.length) := by
  cases xs with
  | nil => simp [Lib.join, List.intercalate]
  | cons x r =>
    have h2 := joinTail_length sep r m (fun p hp => h p (by simp [hp]))
    have h3 := h x (by simp)
    rw [Lib.join_cons, List.length_append, List.length_cons, Nat.add_mul]
    omega
theorem wordV_length (t : Int) : (wordV t).length ≤ 4 := by unfold wordV; split <;> decide
theorem nameV_length {s : List UInt8} (h : nameV s = true) : s.length ≤ 16 := by
  cases s with
  | nil => simp
  | cons c r => rw [nameV_cons] at h; simp at h; simpa using h.1
theorem partV_length {c : CD} (h : nameV c.name.data.toList = true) : (partV c).length ≤ 21 := by
  have h1 := nameV_length h
  have h2 := wordV_length c.typ
  unfold partV
  rw [List.length_append, List.length_cons]; omega
theorem parts_length {cs : List CD} (h : checkV cs = 0) (k : Nat) : (Lib.join ((cs.take k).map partV) [44, 32]).length ≤ 368 := by
  obtain ⟨h1, h2, h3⟩ := check_zero h
  have h4 := join_length [44, 32] ((cs.take k).map partV) 21 (fun p hp => by
    obtain ⟨c, hc, rfl⟩ := List.mem_map.1 hp
    obtain ⟨j, hj, rfl⟩ := List.mem_iff_getElem.1 (List.mem_of_mem_take hc)
    exact partV_length (h3 j hj).1)
  rw [List.length_map, List.length_take] at h4
  simp only [List.length_cons, List.length_nil] at h4
  have : min k cs.length ≤ 16 := by omega
  omega

/-- the text so far -/
def accV (cs : List CD) (k : Nat) : List UInt8 := 40 :: Lib.join ((cs.take k).map partV) [44, 32]
theorem accV_succ {cs : List CD} {k : Nat} (h : k < cs.length) : accV cs (k + 1) = accV cs k ++ ((if k = 0 then [] else [44, 32]) ++ partV cs[k]) := by
  unfold accV
  rw [List.take_succ_eq_append_getElem h, List.map_append, List.map_cons, List.map_nil, join_snoc]
  by_cases hk : k = 0
  · subst hk
    have e0 : Lib.join (List.map partV (List.take 0 cs)) [44, 32] = [] := rfl
    rw [if_pos (by simp), if_pos rfl, e0]
    rfl
  · rw [if_neg (by
      intro e
      have := congrArg List.length e
      rw [List.length_map, List.length_take, List.length_nil] at this
      omega), if_neg hk]
    rfl

set_option maxRecDepth 20000 in
set_option maxHeartbeats 3200000 in
theorem refShow_any (A : Option Addr) (cap n : Nat) (cs : List CD) (hn : cs.length = n) (hc : checkV cs = 0) (w : World) (h : ColsAt w A cs) :
    Calls Tryd.prog 14 #[.slice A n cap] w fun e w' => e = .returned (.string (S (textV cs))) ∧ w = w' := by
  subst hn
  obtain ⟨h1, h16, hz⟩ := check_zero hc
  have hpl := parts_length hc
  have Hz := Lib.hid hz; have Hpl := Lib.hid hpl
  clear hz hpl hc
  go_enter Tryd.func14, Tryd.ntmps14
  go_wp2
  go_loop [3, 4] (fun s i => ∃ k : Nat, k ≤ cs.length ∧ i = .int .i64 k ∧ s = .string (S (accV cs k))) (fun _ i => cs.length - (intOf i).toNat)
  case atStart => exact ⟨0, by omega, rfl, rfl⟩
  case round =>
    obtain ⟨k, hk, rfl, rfl⟩ := hrel
    have hlk : (accV cs k).length ≤ 369 := by have := Hpl.out k; unfold accV; rw [List.length_cons]; omega
    obtain ⟨acc, hacc⟩ : ∃ acc, acc = accV cs k := ⟨_, rfl⟩
    rw [← hacc] at hlk ⊢
    by_cases hlt : k < cs.length
    · obtain ⟨ad, b, off, rfl, hadd, c0, c1⟩ := h.at_ k hlt
      have hzk := Hz.out k hlt
      have hsu := accV_succ hlt
      obtain ⟨c, hce⟩ : ∃ c, c = cs[k] := ⟨_, rfl⟩
      rw [← hce] at c0 c1 hzk hsu
      rw [← hacc] at hsu
      have Hsu := Lib.hid hsu; have Hacc := Lib.hid hacc
      clear hce hsu hacc
      obtain ⟨hnm, htp⟩ := hzk
      have hnl := nameV_length hnm
      rw [size_toList] at hnl
      obtain ⟨nm, ty⟩ := c
      simp only at c0 c1 hnl htp hnm
      clear hnm
      obtain ⟨t, rfl⟩ : ∃ t, nm = S t := ⟨_, (S_of _).symm⟩
      have hsz := S_size t
      rw [hsz] at hnl
      have z1 : (S acc).size + (ByteArray.mk #[44, 32]).size ≤ 9223372036854775807 := by rw [S_size]; show _ + 2 ≤ _; omega
      have z2 : (S acc).size + (S t).size ≤ 9223372036854775807 := by rw [S_size, S_size]; omega
      have z2b : (S acc ++ ByteArray.mk #[44, 32]).size + (S t).size ≤ 9223372036854775807 := by rw [show ByteArray.mk #[44, 32] = S [44, 32] from rfl, S_app, S_size, S_size]; simp; omega
      have z3 : ∀ x : ByteArray, x.size ≤ 1000 → x.size + (ByteArray.mk #[32, 105, 110, 116]).size ≤ 9223372036854775807 := fun x hx => by show x.size + 4 ≤ _; omega
      have z4 : ∀ x : ByteArray, x.size ≤ 1000 → x.size + (ByteArray.mk #[32, 116, 101, 120, 116]).size ≤ 9223372036854775807 := fun x hx => by show x.size + 5 ≤ _; omega
      have y1 : (S acc ++ S t).size ≤ 1000 := by rw [S_app, S_size]; simp; omega
      have y2 : (S acc ++ ByteArray.mk #[44, 32] ++ S t).size ≤ 1000 := by rw [show ByteArray.mk #[44, 32] = S [44, 32] from rfl, S_app, S_app, S_size]; simp; omega
      have z31 := z3 _ y1
      have z32 := z3 _ y2
      have z41 := z4 _ y1
      have z42 := z4 _ y2
      have hfin : ∀ (pre wd : List UInt8), accV cs (k + 1) = acc ++ (pre ++ (t ++ wd)) → S (acc ++ pre ++ t ++ wd) = S (accV cs (k + 1)) := fun pre wd e => by
        rw [e]; congr 1; simp [List.append_assoc]
      have Hfin := Lib.hid hfin
      clear z3 z4 y1 y2 hfin
      have hpt : partV ⟨S t, ty⟩ = t ++ 32 :: wordV ty := by unfold partV; rw [S_toList]
      have Hpt := Lib.hid hpt; clear hpt
      by_cases hk0 : k = 0
      · subst hk0
        have hs2 := Hsu.out
        rw [if_pos rfl, Hpt.out] at hs2
        rcases htp with rfl | rfl
        · have Hs2 := Lib.hid (Hfin.out [] [32, 105, 110, 116] hs2)
          clear hs2
          go_wp2
          go_round
          case rel => exact ⟨1, by omega, rfl, congrArg Value.string (by rw [← Hs2.out]; rw [show ByteArray.mk #[32, 105, 110, 116] = S [32, 105, 110, 116] from rfl, S_app, S_app]; simp)⟩
          case measure => simp [intOf]; omega
        · have Hs2 := Lib.hid (Hfin.out [] [32, 116, 101, 120, 116] hs2)
          clear hs2
          go_wp2
          go_round
          case rel => exact ⟨1, by omega, rfl, congrArg Value.string (by rw [← Hs2.out]; rw [show ByteArray.mk #[32, 116, 101, 120, 116] = S [32, 116, 101, 120, 116] from rfl, S_app, S_app]; simp)⟩
          case measure => simp [intOf]; omega
      · have hkp : 0 < k := by omega
        have hs2 := Hsu.out
        rw [if_neg hk0, Hpt.out] at hs2
        rcases htp with rfl | rfl
        · have Hs2 := Lib.hid (Hfin.out [44, 32] [32, 105, 110, 116] hs2)
          clear hs2
          go_wp2
          go_round
          case rel => exact ⟨k + 1, by omega, by go_num, congrArg Value.string (by rw [← Hs2.out]; rw [show ByteArray.mk #[32, 105, 110, 116] = S [32, 105, 110, 116] from rfl, show ByteArray.mk #[44, 32] = S [44, 32] from rfl, S_app, S_app, S_app])⟩
          case measure => simp [intOf]; omega
        · have Hs2 := Lib.hid (Hfin.out [44, 32] [32, 116, 101, 120, 116] hs2)
          clear hs2
          go_wp2
          go_round
          case rel => exact ⟨k + 1, by omega, by go_num, congrArg Value.string (by rw [← Hs2.out]; rw [show ByteArray.mk #[32, 116, 101, 120, 116] = S [32, 116, 101, 120, 116] from rfl, show ByteArray.mk #[44, 32] = S [44, 32] from rfl, S_app, S_app, S_app])⟩
          case measure => simp [intOf]; omega
    · obtain rfl : k = cs.length := by omega
      have z1 : (S acc).size + (ByteArray.mk #[41]).size ≤ 9223372036854775807 := by rw [S_size]; show _ + 1 ≤ _; omega
      have Hacc := Lib.hid hacc; clear hacc
      go_wp2
      go_ret
      exact ⟨ret_str (by rw [show ByteArray.mk #[41] = S [41] from rfl, S_app, Hacc.out]; unfold textV accV; rw [List.take_length]; rfl), rfl⟩
end Go.Proofs.YtngoiphknffplaaDoor
