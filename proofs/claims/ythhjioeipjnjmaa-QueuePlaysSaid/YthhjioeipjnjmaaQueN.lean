/- Which function a call through heap.Interface enters: the queue's own methods. -/
import Derived.Test.YthhjioeipjnjmaaQueH
namespace Go.Proofs.Ythhjioeipjnjmaa
open Go.RowKit

theorem method_val {P : Program} {T E : TypeId} {name : String} {f : FuncId} (hm : ((P.info? T).bind fun i => i.methods.find? (·.name == name)).map (fun m => (m.path, m.func)) = some (#[], some (f, false))) (hu : P.underlying T = some (.pointer E))
    {w : World} {g : Nat} {v : Value} (hl : (loadVar E ⟨g, 0, none⟩).run P w = .ok v w) (fuel : Nat) : (Go.method (fuel + 1) T (.pointer (some ⟨g, 0, none⟩)) name).run P w = .ok (f, v) w := by
  rcases hi : P.info? T with _ | i
  · rw [hi] at hm; cases hm
  · rw [hi] at hm
    rcases hf : i.methods.find? (·.name == name) with _ | m
    · simp [hf] at hm
    · simp [hf] at hm
      have hk : ∀ n : String, (Builtin.ssaWrapNilChk_ #[T] T #[.pointer (some ⟨g, 0, none⟩), strVal "", strVal n]).run P w = .ok (.pointer (some ⟨g, 0, none⟩)) w := fun _ => rfl
      unfold Go.method
      simp [typeInfo, hi, hf, hm.1, hm.2, follow, receiverAt, Place.get, run_underlying hu, hk, asAddr, hl, Result.andThen]
theorem method_ptr {P : Program} {T E : TypeId} {name : String} {f : FuncId} (hm : ((P.info? T).bind fun i => i.methods.find? (·.name == name)).map (fun m => (m.path, m.func)) = some (#[], some (f, true))) (hu : P.underlying T = some (.pointer E))
    {w : World} {g : Nat} (fuel : Nat) : (Go.method (fuel + 1) T (.pointer (some ⟨g, 0, none⟩)) name).run P w = .ok (f, .pointer (some ⟨g, 0, none⟩)) w := by
  rcases hi : P.info? T with _ | i
  · rw [hi] at hm; cases hm
  · rw [hi] at hm
    rcases hf : i.methods.find? (·.name == name) with _ | m
    · simp [hf] at hm
    · simp [hf] at hm
      unfold Go.method
      simp [typeInfo, hi, hf, hm.1, hm.2, follow, receiverAt, Place.get, run_underlying hu, Result.andThen]
theorem load_es {w : World} {g : Nat} {v : Value} (h : w.cell? ⟨g, 0, none⟩ = some v) : (loadVar 51 ⟨g, 0, none⟩).run Try.prog w = .ok v w := by
  simp [loadVar, Try.isAgg51, h, Result.andThen]
theorem meth_less {w : World} {g : Nat} {v : Value} (h : w.cell? ⟨g, 0, none⟩ = some v) (fuel : Nat) : (Go.method (fuel + 1) 70 (.pointer (some ⟨g, 0, none⟩)) "Less").run Try.prog w = .ok (70, v) w :=
  method_val (by kernel_rfl) Try.underlying70 (load_es h) fuel
theorem meth_swap {w : World} {g : Nat} {v : Value} (h : w.cell? ⟨g, 0, none⟩ = some v) (fuel : Nat) : (Go.method (fuel + 1) 70 (.pointer (some ⟨g, 0, none⟩)) "Swap").run Try.prog w = .ok (71, v) w :=
  method_val (by kernel_rfl) Try.underlying70 (load_es h) fuel
theorem meth_len {w : World} {g : Nat} {v : Value} (h : w.cell? ⟨g, 0, none⟩ = some v) (fuel : Nat) : (Go.method (fuel + 1) 70 (.pointer (some ⟨g, 0, none⟩)) "Len").run Try.prog w = .ok (69, v) w :=
  method_val (by kernel_rfl) Try.underlying70 (load_es h) fuel
theorem meth_push (w : World) (g : Nat) (fuel : Nat) : (Go.method (fuel + 1) 70 (.pointer (some ⟨g, 0, none⟩)) "Push").run Try.prog w = .ok (73, .pointer (some ⟨g, 0, none⟩)) w :=
  method_ptr (by kernel_rfl) Try.underlying70 fuel
theorem meth_pop (w : World) (g : Nat) (fuel : Nat) : (Go.method (fuel + 1) 70 (.pointer (some ⟨g, 0, none⟩)) "Pop").run Try.prog w = .ok (72, .pointer (some ⟨g, 0, none⟩)) w :=
  method_ptr (by kernel_rfl) Try.underlying70 fuel

def ifV (g : Nat) : Value := .iface 70 (.pointer (some ⟨g, 0, none⟩))

set_option maxRecDepth 20000 in
set_option maxHeartbeats 1600000 in
theorem up_any (g : Nat) (A : Option Addr) (c : Nat) (es : ES) (m p : Value) (j : Nat) (hj : j < es.length) (hl : es.length ≤ 1000000) (w : World) (h : HpAt w g A c es m p) :
    Calls Try.prog 34 #[ifV g, .int .i64 j] w fun e w' => e = .returned (.tuple #[]) ∧ HpAt w' g A c (upL ltE es j) m p ∧ Touch (efp A es) w w' := by
  obtain ⟨R, hR⟩ : ∃ R, R = upL ltE es j := ⟨_, rfl⟩
  rw [← hR]
  unfold ifV
  go_enter Try.func34, Try.ntmps34
  go_wp2
  go_loopw [1] (fun i wr => ∃ (k : Nat) (es' : ES), i = .int .i64 k ∧ k < es'.length ∧ es'.length = es.length ∧ HpAt wr g A c es' m p ∧ Hid (R = upL ltE es' k) ∧ Touch (efp A es) w wr ∧ Hid (es'.Perm es)) (fun i _ => (intOf i).toNat)
  case atStart => exact ⟨j, es, rfl, hj, rfl, h, Lib.hid hR, Touch.refl _ _, Lib.hid (List.Perm.refl _)⟩
  case round =>
    obtain ⟨k, es', rfl, hk, hlen, hh, HR, ht, HP⟩ := hrel
    have c0 := hh.cell0
    by_cases k0 : k = 0
    · subst k0
      have Hz := Lib.hid (show R = es' by rw [HR.out]; unfold upL; rw [dif_neg (by omega)])
      go_wp2_with fail
      go_end0
      exact ⟨rfl, by rw [Hz.out]; exact hh, ht⟩
    have hpk := par_lt (k := k) (by omega)
    have hq : ((k : Int) - 1) / 2 = (par k : Nat) := by unfold par; omega
    have hne : (((par k : Nat) : Int) == (k : Int)) = false := by rw [beq_eq_false_iff_ne]; omega
    have hless := less_any A c es' k (par k) es.length hlen (by omega) (by omega) wr hh.es_
    have hm1 := meth_less c0 224
    have hkk : 0 < k := by omega
    have hup : upL ltE es' k = if ltE es'[k]! es'[par k]! = true then upL ltE (swL es' (par k) k) (par k) else es' := by
      rw [upL]
      by_cases hb : ltE es'[k]! es'[par k]! = true
      · rw [dif_pos ⟨hkk, hb⟩, if_pos hb]
      · rw [dif_neg (fun h => hb h.2), if_neg hb]
    obtain ⟨b, hb⟩ : ∃ b, b = ltE es'[k]! es'[par k]! := ⟨_, rfl⟩
    rw [← hb] at hless hup
    have Hless := Lib.hid hless
    have Hup := Lib.hid hup
    clear hless hup hb
    cases b
    · have Hz := Lib.hid (show R = es' by rw [HR.out, Hup.out]; rfl)
      go_wp2_with fail
      refine Hless.out.mono ?_
      rintro e w1 ⟨rfl, t1⟩
      go_wp2_with fail
      go_end0
      exact ⟨rfl, by rw [Hz.out]; exact hh.touch0 t1, ht.trans0 t1⟩
    · have Hz := Lib.hid (show R = upL ltE (swL es' (par k) k) (par k) by rw [HR.out, Hup.out]; rfl)
      go_wp2_with fail
      refine Hless.out.mono ?_
      rintro e w1 ⟨rfl, t1⟩
      have hh1 := hh.touch0 t1
      have c1 := hh1.cell0
      have hm2 := meth_swap c1 224
      have Hswap := Lib.hid (swap_any A c es' (par k) k es.length hlen (by omega) (by omega) (by omega) w1 hh1.es_)
      have hsl : (swL es' (par k) k).length = es'.length := swL_length _ _ _
      have hsp := swL_perm es' (par k) k (by omega) hk
      have Hsl := Lib.hid hsl
      have Hsp := Lib.hid hsp
      clear hm1 hsl hsp
      go_wp2_with fail
      refine Hswap.out.mono ?_
      rintro e w2 ⟨rfl, hes, t2⟩
      have hb2 := t2.blk hh1.blk hh1.ng
      have hh2 : HpAt w2 g A c (swL es' (par k) k) m p := ⟨by rw [Hsl.out]; exact hb2, hes, fun hm => hh1.ng ((efp_perm Hsp.out g).1 hm)⟩
      have T2 : Touch (efp A es) w w2 := (ht.trans0 t1).trans t2 (fun b hb => .inl ((efp_perm HP.out b).1 hb))
      have HP2 := Lib.hid (Hsp.out.trans HP.out)
      go_wp2_with fail
      go_roundw
      case rel => exact ⟨par k, swL es' (par k) k, rfl, by rw [Hsl.out]; omega, by rw [Hsl.out]; exact hlen, hh2, Hz, T2, HP2⟩
      case measure => simp [intOf]; omega
end Go.Proofs.Ythhjioeipjnjmaa
