/- the fixed answer of the statements of layer 2: it stands. -/
import Derived.Test.YtngoiphknffplaaDoorSchParse2
namespace Go.Proofs.YtngoiphknffplaaDoor
open Go.RowKit

def t0V : List UInt8 := [40, 105, 100, 32, 105, 110, 116, 44, 32, 110, 97, 109, 101, 32, 116, 101, 120, 116, 41]
def c1V : CD := ⟨S [105, 100], 1⟩
def c2V : CD := ⟨S [110, 97, 109, 101], 2⟩
theorem cols_t0 : colsV t0V = [c1V, c2V] := by kernel_rfl
theorem show_t0 : showV [c1V, c2V] = t0V := by kernel_rfl
theorem place_t0 : placeV [c1V, c2V] (S [110, 97, 109, 101]) = some 1 := by kernel_rfl
theorem pickC_t0 : pickC [c1V, c2V] [S [110, 97, 109, 101]] = [c2V] := by kernel_rfl
theorem pickK_t0 : pickK [c1V, c2V] [S [110, 97, 109, 101]] = [1] := by kernel_rfl
theorem pickOk_t0 : [S [110, 97, 109, 101]].all (pkOk [c1V, c2V]) = true := by kernel_rfl
theorem check_t0 : checkV [c2V] = 0 := by kernel_rfl

theorem OwnK.at0 {α : Type} {t k : Nat} {enc : α → List Value} {w : World} {A : Option Addr} {c : Nat} {x : α} {xs : List α} (h : OwnK t k enc w A c (x :: xs)) : ∃ g, A = some ⟨g, 0, none⟩ ∧ ∀ j u, ((x :: xs).flatMap enc)[j]? = some u → w.cell? ⟨g, j, none⟩ = some u := by
  rcases h.head with ⟨_, h0, _⟩ | ⟨g, rfl⟩
  · cases h0
  · refine ⟨g, rfl, fun j u hu => ?_⟩
    have h1 := World.ownsRow.cells h (g := g) rfl j u hu
    have e1 : (⟨g, 0, none⟩ : Addr).add j = ⟨g, j, none⟩ := by unfold Addr.add; split <;> simp_all
    rwa [e1] at h1

set_option maxRecDepth 20000 in
set_option maxHeartbeats 1600000 in
theorem awake2_any (w : World) (hG : Gs w) : Calls Tryd.prog 10 #[] w fun e w' => e = .returned (.bool true) ∧ Touch [] w w' := by
  have hparse := parse_any t0V (by decide) w hG
  have hP : ∀ e w', ParsePost t0V w e w' → ∃ A c, e = .returned (.tuple #[.slice A 2 c, .int .i64 0]) ∧ Made 38 2 cdE [c1V, c2V] A c w w' := fun e w' h => by
    unfold ParsePost at h
    rw [cols_t0, show_t0, if_neg (by simp [t0V])] at h
    exact h
  have HP := Lib.hid hP; have Hparse := Lib.hid hparse
  clear hP hparse
  go_enter Tryd.func10, Tryd.ntmps10
  go_wp2_with fail
  refine Hparse.out.mono ?_
  intro e w1 hp
  obtain ⟨A1, d1, rfl, hm1⟩ := HP.out e w1 hp
  clear hp
  go_wp2_with fail
  have tb := (Touch.refl [] w1).alloc (.cells #[.string ⟨#[110, 97, 109, 101]⟩] 9)
  have hpk := pick_any A1 d1 2 [c1V, c2V] rfl (fun c hc => by
    simp only [List.mem_cons, List.not_mem_nil, or_false] at hc
    rcases hc with rfl | rfl
    · exact ⟨by decide, by decide⟩
    · exact ⟨by decide, by decide⟩) (some ⟨w1.heap.size, 0, none⟩) 1 1 [S [110, 97, 109, 101]] rfl (w1.alloc (.cells #[.string ⟨#[110, 97, 109, 101]⟩] 9)) (RdK.touch0 hm1.own.rd tb) (RdK.one (enc := sbE) w1 9 (S [110, 97, 109, 101]) #[.string ⟨#[110, 97, 109, 101]⟩] rfl) (by omega) (by omega)
  refine hpk.mono ?_
  intro e w2 hp
  unfold PickPost at hp
  rw [pickOk_t0, if_neg (by simp), pickC_t0, if_pos check_t0, pickK_t0] at hp
  obtain ⟨A2, d2, A3, d3, rfl, hm2, hm3⟩ := hp
  obtain ⟨g2, rfl, hc2⟩ := hm2.own.at0
  obtain ⟨g3, rfl, hc3⟩ := hm3.own.at0
  have e1 := hc2 1 (.int .i64 2) rfl
  have e2 := hc3 0 (.int .i64 1) rfl
  have hT := (hm1.t.trans0 tb).trans0 hm2.t
  clear hc2 hc3 hpk
  go_wp2
  go_ret
  exact ⟨rfl, hT⟩
end Go.Proofs.YtngoiphknffplaaDoor
