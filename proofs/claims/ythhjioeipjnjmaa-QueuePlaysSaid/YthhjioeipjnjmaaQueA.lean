/- bywashlaw24.awake: the walk. In every world. -/
import Derived.Test.YthhjioeipjnjmaaQueE
namespace Go.Proofs.Ythhjioeipjnjmaa
open Go.RowKit

def qa5 : QE := ⟨⟨#[97]⟩, 0, 5, 0, 0⟩
def qb3 : QE := ⟨⟨#[98]⟩, 0, 3, 0, 0⟩
def qa1 : QE := ⟨⟨#[97]⟩, 0, 1, 0, 0⟩
theorem aw_ok : ∀ x ∈ [qa5, qb3, qa1], x.Ok := by
  intro x hx
  simp only [List.mem_cons, List.not_mem_nil, or_false] at hx
  rcases hx with rfl | rfl | rfl
  all_goals exact ⟨by show (1 : Nat) ≤ maxLen; unfold maxLen; omega, ⟨by decide, by decide⟩, ⟨by decide, by decide⟩, ⟨by decide, by decide⟩⟩
theorem aw_list : newQ [qa5, qb3, qa1] 3 = [{ qa1 with put := 3 }, { qb3 with put := 2 }] := by
  rw [newQ_succ (by decide), newQ_succ (by decide), newQ_succ (by decide)]
  simp [newQ, dropQ, insQ, QE.is, qa5, qb3, qa1]

set_option maxRecDepth 20000 in
set_option maxHeartbeats 3200000 in
theorem awake_any (w : World) : Calls Try.prog 7 #[] w fun e w' => e = .returned (.bool true) ∧ Touch [] w w' := by
  have hI := fun a d W => item_any a d W
  have HI := Lib.hid hI
  clear hI
  go_enter Try.func7, Try.ntmps7
  go_wp2_with fail
  refine (HI.out _ _ _).mono ?_
  rintro e w1 ⟨rfl, t1⟩
  go_wp2_with fail
  refine (HI.out _ _ _).mono ?_
  rintro e w2 ⟨rfl, t2⟩
  go_wp2_with fail
  refine (HI.out _ _ _).mono ?_
  rintro e w3 ⟨rfl, t3⟩
  have T3 := (t1.trans0 t2).trans0 t3
  clear t1 t2 t3
  go_wp2_with fail
  have ta := (Touch.refl [] w3).alloc (.cells #[.string ⟨#[97]⟩, .int .i64 0, .int .i64 5, .int .i64 0, .string ⟨#[98]⟩, .int .i64 0, .int .i64 3, .int .i64 0, .string ⟨#[97]⟩, .int .i64 0, .int .i64 1, .int .i64 0] 28)
  have hr := RdK.row (enc := itE) w3 28 [qa5, qb3, qa1] #[.string ⟨#[97]⟩, .int .i64 0, .int .i64 5, .int .i64 0, .string ⟨#[98]⟩, .int .i64 0, .int .i64 3, .int .i64 0, .string ⟨#[97]⟩, .int .i64 0, .int .i64 1, .int .i64 0] rfl
  refine (new_any _ 3 3 [qa5, qb3, qa1] rfl (by omega) aw_ok _ hr).mono ?_
  rintro e w4 ⟨g, fp, rfl, hq, t4, hf⟩
  rw [show newQ [qa5, qb3, qa1] [qa5, qb3, qa1].length = _ from aw_list] at hq
  have HT := Lib.hid (And.intro (T3.trans0 ta) (And.intro t4 hf))
  have Hlen := Lib.hid (qlen_any g fp _ _ w4 hq)
  have Htake := Lib.hid (take_any g fp _ _ w4 hq)
  clear hr ta T3 t4 hf hq
  go_wp2_with fail
  refine Hlen.out.mono ?_
  rintro e w5 ⟨rfl, rfl⟩
  have hl2 : (([{ qa1 with put := 3 }, { qb3 with put := 2 }] : List QE).length : Int) = 2 := rfl
  rw [hl2]
  go_wp2_with fail
  refine Htake.out.mono ?_
  rintro e w6 ⟨rfl, fp', hq6, t6, hf6⟩
  have hfv : firstV [{ qa1 with put := 3 }, { qb3 with put := 2 }] = .tuple #[.agg #[.string ⟨#[97]⟩, .int .i64 0, .int .i64 1, .int .i64 0], .bool true] := rfl
  rw [hfv]
  have HT6 := Lib.hid t6
  have hE : ∀ W : World, (Op.equalIn 9999 28 (.agg #[.string ⟨#[97]⟩, .int .i64 0, .int .i64 1, .int .i64 0]) (.agg #[.string ⟨#[97]⟩, .int .i64 0, .int .i64 1, .int .i64 0])).run Try.prog W = .ok true W := fun W => by
    have := eq_item qa1 qa1 (aw_ok _ (by simp)) (aw_ok _ (by simp)) W
    rw [sameI_same] at this
    exact this
  have hB : ∀ W : World, Calls Try.prog 11 #[.int .i64 4, .int .i64 2, .int .i64 10] W fun e w' => e = .returned (.int .i64 10) ∧ W = w' := fun W => by
    refine (backoff_any 4 2 10 (by omega) (by omega) W).mono ?_
    rintro e w' ⟨rfl, rfl⟩
    exact ⟨rfl, rfl⟩
  have HB := Lib.hid hB
  clear hq6 hf6 t6 hfv hl2 hB
  go_wp2_with fail
  have tz := (Touch.refl [] w6).alloc (.cells #[.string ⟨#[97]⟩, .int .i64 0, .int .i64 1, .int .i64 0] 28)
  have hz := heap_alloc_new w6 (.cells #[.string ⟨#[97]⟩, .int .i64 0, .int .i64 1, .int .i64 0] 28)
  obtain ⟨W, hW⟩ : ∃ W, W = w6.alloc (.cells #[.string ⟨#[97]⟩, .int .i64 0, .int .i64 1, .int .i64 0] 28) := ⟨_, rfl⟩
  rw [← hW] at tz hz ⊢
  have g0 := TW.cell (cell_blk (i := 0) hz rfl)
  have g1 := TW.cell (cell_blk (i := 1) hz rfl)
  have g2 := TW.cell (cell_blk (i := 2) hz rfl)
  have g3 := TW.cell (cell_blk (i := 3) hz rfl)
  have HZ := Lib.hid tz
  clear hz tz hW
  refine wp_region_tw W (Touch.refl _ _) (by kernel_rfl) (by kernel_rfl) ?_
  repeat (go_big_quiet_step (first | ((go_at_call 17; exact Calls.tw _ (HI.out _ _ _))) | ((go_at_call 11; exact Calls.tw_same _ (HB.out _)))))
  refine wpQuiet_nil ?_
  rintro _ ⟨z, rfl⟩
  go_wp2
  go_ret
  refine ⟨rfl, ?_⟩
  obtain ⟨T0, t4, hf⟩ := HT.out
  exact ((T0.trans0 t4).trans HT6.out (fun b hb => .inr (Nat.le_trans T0.size (hf b hb)))).trans0 (HZ.out.trans0 z.t)
end Go.Proofs.Ythhjioeipjnjmaa
