/- A map of the calls' own, entry by entry: look-up, store, delete, len as equations on the run. For keys of whatever kind that the library's bundle 'Keyed' speaks of. -/
import Derived.Test.YtmehdlflhllhdaaTxt
import Derived.Maps.OwnSet
namespace Go.Proofs.Ytmehdlflhllhdaa
open Go.RowKit Go.Maps Go.ChangeMaps

/-- block b is a map that holds just these entries, in the order of their birth -/
def MapAt (P : Program) (k : TypeId) (w : World) (b : Nat) (kvs : List (Value × Value)) : Prop :=
  ∃ es clock, w.heap[b]? = some (.map es clock) ∧ es.toList.map (fun e => (e.key, e.val)) = kvs ∧ (∀ e ∈ es.toList, ∃ l, keyOf P k e.key = some l) ∧ kvs.Pairwise (fun p q => p.1 ≠ q.1)

variable {P : Program} {k : TypeId}
theorem MapAt.made (w : World) : MapAt P k (w.alloc (.map #[] 0)) w.heap.size [] := ⟨#[], 0, heap_alloc_new w _, rfl, by simp, .nil⟩
theorem MapAt.touch {w w' : World} {b : Nat} {kvs : List (Value × Value)} {fp : List Nat} (h : MapAt P k w b kvs) (ht : Touch fp w w') (hb : b ∉ fp) : MapAt P k w' b kvs := by
  obtain ⟨es, clock, h1, h2⟩ := h
  exact ⟨es, clock, ht.blk h1 hb, h2⟩
theorem MapAt.lt {w : World} {b : Nat} {kvs : List (Value × Value)} (h : MapAt P k w b kvs) : b < w.heap.size := by
  obtain ⟨es, clock, h1, _⟩ := h
  exact (Array.getElem?_eq_some_iff.1 h1).1
theorem Touch.setBlock {w : World} {b : Nat} {es : Array MapEntry} {clock : Nat} (hb : w.heap[b]? = some (.map es clock)) (o : Obj) : Touch [b] w (setBlock w b o) :=
  ⟨rfl, rfl, rfl, by simp [ChangeMaps.setBlock], fun j _ hn => heap_setBlock_other hb o (fun e => hn (by simp [e]))⟩

/-- nothing stands under the key -/
theorem MapAt.miss {w : World} {b : Nat} {kvs : List (Value × Value)} {t e : TypeId} (h : MapAt P k w b kvs) (K : Keyed P k) (ht : P.underlying t = some (.map k e)) {key : Value} {kl : Lit} (hkey : keyOf P k key = some kl)
    (hm : ∀ p ∈ kvs, p.1 ≠ key) (z : Value) (hz : (zeroValue e).run P w = .ok z w) (c : Bool) :
    (Instr.lookup t (.map (some b)) key c).run P w = .ok (if c then .tuple #[z, .bool false] else z) w := by
  obtain ⟨es, clock, hb, rfl, hk, _⟩ := h
  rcases K.find w hkey es.toList hk with ⟨h1, h2⟩ | ⟨j, e0, h1, h2, h3⟩
  · simp [Instr.lookup, run_underlying ht, MapKept.run_getObj_map hb, K.check w _ hkey, h1, hz, Result.andThen]
  · exact absurd h3 (hm (e0.key, e0.val) (List.mem_map.2 ⟨e0, List.mem_of_getElem? h2, rfl⟩))
theorem find_place {es : List MapEntry} {j : Nat} {e0 : MapEntry} {key : Value} {l1 l2 : List (Value × Value)} {v0 : Value} (h2 : es[j]? = some e0) (h3 : e0.key = key) (he : es.map (fun e => (e.key, e.val)) = l1 ++ (key, v0) :: l2)
    (hp : (l1 ++ (key, v0) :: l2).Pairwise (fun p q => p.1 ≠ q.1)) : j = l1.length ∧ e0.val = v0 := by
  have hj : (l1 ++ (key, v0) :: l2)[j]? = some (key, e0.val) := by rw [← he, List.getElem?_map, h2, ← h3]; rfl
  have hjl : j < (l1 ++ (key, v0) :: l2).length := (List.getElem?_eq_some_iff.1 hj).1
  have hl : (l1 ++ (key, v0) :: l2)[l1.length]? = some (key, v0) := by simp
  have hll : l1.length < (l1 ++ (key, v0) :: l2).length := (List.getElem?_eq_some_iff.1 hl).1
  have e1 : (l1 ++ (key, v0) :: l2)[j] = (key, e0.val) := by rw [List.getElem?_eq_getElem hjl] at hj; exact Option.some.inj hj
  have e2 : (l1 ++ (key, v0) :: l2)[l1.length] = (key, v0) := by rw [List.getElem?_eq_getElem hll] at hl; exact Option.some.inj hl
  have hpw := List.pairwise_iff_getElem.1 hp
  rcases Nat.lt_trichotomy j l1.length with h | h | h
  · exact absurd (by rw [e1, e2]) (hpw j l1.length hjl hll h)
  · subst h
    rw [e1] at e2
    exact ⟨rfl, (Prod.mk.inj e2).2⟩
  · exact absurd (by rw [e1, e2]) (hpw l1.length j hll hjl h)
/-- what stands under the key -/
theorem MapAt.hit {w : World} {b : Nat} {kvs : List (Value × Value)} {t e : TypeId} (h : MapAt P k w b kvs) (K : Keyed P k) (ht : P.underlying t = some (.map k e)) {key v : Value} {kl : Lit} (hkey : keyOf P k key = some kl)
    (hm : (key, v) ∈ kvs) (c : Bool) :
    (Instr.lookup t (.map (some b)) key c).run P w = .ok (if c then .tuple #[v, .bool true] else v) w := by
  obtain ⟨es, clock, hb, rfl, hk, hp⟩ := h
  obtain ⟨e1, he1, e2⟩ := List.mem_map.1 hm
  rcases K.find w hkey es.toList hk with ⟨h1, h2⟩ | ⟨j, e0, h1, h2, h3⟩
  · exact absurd (by simpa using congrArg Prod.fst e2) (h2 e1 he1)
  · have hv : e0.val = v := by
      obtain ⟨l1, l2, hl⟩ := List.append_of_mem hm
      exact (find_place h2 h3 hl (hl ▸ hp)).2
    simp [Instr.lookup, run_underlying ht, MapKept.run_getObj_map hb, K.check w _ hkey, h1, hv, Result.andThen]
/-- a new entry -/
theorem MapAt.put_new {w : World} {b : Nat} {kvs : List (Value × Value)} {t e : TypeId} (h : MapAt P k w b kvs) (K : Keyed P k) (ht : P.underlying t = some (.map k e)) {key : Value} {kl : Lit} (hkey : keyOf P k key = some kl)
    (hm : ∀ p ∈ kvs, p.1 ≠ key) (v : Value) :
    ∃ w', (Instr.mapUpdate t (.map (some b)) key v).run P w = .ok () w' ∧ MapAt P k w' b (kvs ++ [(key, v)]) ∧ Touch [b] w w' := by
  obtain ⟨es, clock, hb, rfl, hk, hp⟩ := h
  rcases K.find w hkey es.toList hk with ⟨h1, h2⟩ | ⟨j, e0, h1, h2, h3⟩
  · refine ⟨ChangeMaps.setBlock w b (.map (es.push ⟨key, v, clock⟩) (clock + 1)), ?_, ⟨es.push ⟨key, v, clock⟩, clock + 1, heap_setBlock_same hb _, by simp, ?_, ?_⟩, Touch.setBlock hb _⟩
    · simp [Instr.mapUpdate, run_underlying ht, MapKept.run_getObj_map hb, K.check w false hkey, h1, MapKept.run_setObj_map _ hb, Result.andThen, ChangeMaps.setBlock]
    · intro x hx
      simp only [Array.toList_push, List.mem_append, List.mem_singleton] at hx
      rcases hx with hx | rfl
      · exact hk x hx
      · exact ⟨kl, hkey⟩
    · rw [List.pairwise_append]
      refine ⟨hp, by simp, fun p hp2 q hq => ?_⟩
      obtain rfl : q = (key, v) := by simpa using hq
      exact hm p hp2
  · exact absurd h3 (hm (e0.key, e0.val) (List.mem_map.2 ⟨e0, List.mem_of_getElem? h2, rfl⟩))
/-- the entry of a key gets another value -/
theorem MapAt.put_old {w : World} {b : Nat} {l1 l2 : List (Value × Value)} {t e : TypeId} {key v0 : Value} (h : MapAt P k w b (l1 ++ (key, v0) :: l2)) (K : Keyed P k) (ht : P.underlying t = some (.map k e)) {kl : Lit} (hkey : keyOf P k key = some kl) (v : Value) :
    ∃ w', (Instr.mapUpdate t (.map (some b)) key v).run P w = .ok () w' ∧ MapAt P k w' b (l1 ++ (key, v) :: l2) ∧ Touch [b] w w' := by
  obtain ⟨es, clock, hb, he, hk, hp⟩ := h
  rcases K.find w hkey es.toList hk with ⟨h1, h2⟩ | ⟨j, e0, h1, h2, h3⟩
  · have : (key, v0) ∈ es.toList.map (fun e => (e.key, e.val)) := by rw [he]; simp
    obtain ⟨e1, he1, e2⟩ := List.mem_map.1 this
    exact absurd (by simpa using congrArg Prod.fst e2) (h2 e1 he1)
  · obtain ⟨rfl, hv⟩ := find_place h2 h3 he hp
    have hjs : l1.length < es.size := by have := (List.getElem?_eq_some_iff.1 h2).1; simpa using this
    have hget : es[l1.length]? = some e0 := by rw [← Array.getElem?_toList]; exact h2
    have hst := K.stays w hkey
    refine ⟨ChangeMaps.setBlock w b (.map (es.modify l1.length fun e => { e with key := key, val := v }) clock), ?_, ⟨es.modify l1.length fun e => { e with key := key, val := v }, clock, heap_setBlock_same hb _, ?_, ?_, ?_⟩, Touch.setBlock hb _⟩
    · simp [Instr.mapUpdate, run_underlying ht, MapKept.run_getObj_map hb, K.check w false hkey, h1, hget, h3, hst, MapKept.run_setObj_map _ hb, Result.andThen, ChangeMaps.setBlock]
    · apply List.ext_getElem?
      intro i
      have hi : (es.toList.map (fun e => (e.key, e.val)))[i]? = (l1 ++ (key, v0) :: l2)[i]? := by rw [he]
      simp only [List.getElem?_map, Array.getElem?_toList, Array.getElem?_modify] at hi ⊢
      by_cases hil : l1.length = i
      · subst hil
        simp [hget]
      · rw [if_neg hil, hi]
        rcases Nat.lt_or_gt_of_ne hil with h | h
        · rw [List.getElem?_append_right (by omega), List.getElem?_append_right (by omega)]
          obtain ⟨m, hm⟩ : ∃ m, i - l1.length = m + 1 := ⟨i - l1.length - 1, by omega⟩
          rw [hm]; rfl
        · rw [List.getElem?_append_left h, List.getElem?_append_left h]
    · intro x hx
      obtain ⟨i, hi⟩ := List.mem_iff_getElem?.1 hx
      rw [Array.getElem?_toList, Array.getElem?_modify] at hi
      by_cases hil : l1.length = i
      · subst hil
        rw [if_pos rfl, hget] at hi
        obtain rfl := Option.some.inj hi
        exact ⟨kl, hkey⟩
      · rw [if_neg hil] at hi
        exact hk x (List.mem_iff_getElem?.2 ⟨i, by rw [Array.getElem?_toList]; exact hi⟩)
    · rw [List.pairwise_append, List.pairwise_cons] at hp ⊢
      exact ⟨hp.1, ⟨hp.2.1.1, hp.2.1.2⟩, fun p hp1 q hq => by
        rcases List.mem_cons.1 hq with rfl | hq
        · exact hp.2.2 p hp1 (key, v0) (by simp)
        · exact hp.2.2 p hp1 q (List.mem_cons.2 (.inr hq))⟩
/-- the entry of a key goes -/
theorem MapAt.del {w : World} {b : Nat} {l1 l2 : List (Value × Value)} {t e : TypeId} {key v0 : Value} (h : MapAt P k w b (l1 ++ (key, v0) :: l2)) (K : Keyed P k) (ht : P.underlying t = some (.map k e)) {kl : Lit} (hkey : keyOf P k key = some kl) (ty : TypeId) :
    ∃ w', (Builtin.delete_ #[t, k] ty #[.map (some b), key]).run P w = .ok (.tuple #[]) w' ∧ MapAt P k w' b (l1 ++ l2) ∧ Touch [b] w w' := by
  obtain ⟨es, clock, hb, he, hk, hp⟩ := h
  rcases K.find w hkey es.toList hk with ⟨h1, h2⟩ | ⟨j, e0, h1, h2, h3⟩
  · have : (key, v0) ∈ es.toList.map (fun e => (e.key, e.val)) := by rw [he]; simp
    obtain ⟨e1, he1, e2⟩ := List.mem_map.1 this
    exact absurd (by simpa using congrArg Prod.fst e2) (h2 e1 he1)
  · obtain ⟨rfl, hv⟩ := find_place h2 h3 he hp
    have hjs : l1.length < es.size := by have := (List.getElem?_eq_some_iff.1 h2).1; simpa using this
    have hsub : (es.eraseIdxIfInBounds l1.length).toList = es.toList.eraseIdx l1.length := by
      unfold Array.eraseIdxIfInBounds
      rw [dif_pos hjs]
      simp
    refine ⟨ChangeMaps.setBlock w b (.map (es.eraseIdxIfInBounds l1.length) clock), ?_, ⟨_, clock, heap_setBlock_same hb _, ?_, ?_, ?_⟩, Touch.setBlock hb _⟩
    · simp [Builtin.delete_, run_underlying ht, MapKept.run_getObj_map hb, K.check w _ hkey, h1, MapKept.run_setObj_map _ hb, Result.andThen, ChangeMaps.setBlock]
    · rw [hsub, List.eraseIdx_eq_take_drop_succ, List.map_append, List.map_take, List.map_drop, he]
      simp
    · intro x hx
      rw [hsub] at hx
      exact hk x ((List.eraseIdx_sublist _ _).subset hx)
    · rw [List.pairwise_append, List.pairwise_cons] at hp
      rw [List.pairwise_append]
      exact ⟨hp.1, hp.2.1.2, fun p hp1 q hq => hp.2.2 p hp1 q (List.mem_cons.2 (.inr hq))⟩
/-- there is none to go -/
theorem MapAt.del_miss {w : World} {b : Nat} {kvs : List (Value × Value)} {t e : TypeId} {key : Value} (h : MapAt P k w b kvs) (K : Keyed P k) (ht : P.underlying t = some (.map k e)) {kl : Lit} (hkey : keyOf P k key = some kl) (hm : ∀ p ∈ kvs, p.1 ≠ key) (ty : TypeId) :
    ∃ w', (Builtin.delete_ #[t, k] ty #[.map (some b), key]).run P w = .ok (.tuple #[]) w' ∧ MapAt P k w' b kvs ∧ Touch [b] w w' := by
  obtain ⟨es, clock, hb, he, hk, hp⟩ := h
  rcases K.find w hkey es.toList hk with ⟨h1, h2⟩ | ⟨j, e0, h1, h2, h3⟩
  · refine ⟨ChangeMaps.setBlock w b (.map es clock), ?_, ⟨es, clock, heap_setBlock_same hb _, he, hk, hp⟩, Touch.setBlock hb _⟩
    simp [Builtin.delete_, run_underlying ht, MapKept.run_getObj_map hb, K.check w _ hkey, h1, MapKept.run_setObj_map _ hb, Result.andThen, ChangeMaps.setBlock]
  · exact absurd h3 (hm (e0.key, e0.val) (by rw [← he]; exact List.mem_map.2 ⟨e0, List.mem_of_getElem? h2, rfl⟩))
theorem MapAt.len {w : World} {b : Nat} {kvs : List (Value × Value)} {t e : TypeId} (h : MapAt P k w b kvs) (ht : P.underlying t = some (.map k e)) (ty : TypeId) :
    (Builtin.len_ #[t] ty #[.map (some b)]).run P w = .ok (.int .i64 kvs.length) w := by
  obtain ⟨es, clock, hb, rfl, _, _⟩ := h
  simp [Builtin.len_, run_underlying ht, MapKept.run_getObj_map hb, Result.andThen, goInt]

section
variable {ops : Array Oper} {rest : List Oper} {o : Oper} {a : Act} {Q : Exit → Act → World → Prop}
/-- a look-up whose run is known -/
theorem wpList_lookup_is {w : World} (hg : o.guard = none) (m x : Operand) (t : TypeId) (c : Bool) (hop : o.op = Op.lookup t m x c) (mv key v : Value) (hm : a.eval m = mv) (hx : a.eval x = key)
    (hrun : (Instr.lookup t mv key c).run P w = .ok v w) (hK : wpList P ops Q rest (a.put o.dst v) w) : wpList P ops Q (o :: rest) a w := by
  refine wpList_plain hg fun K' hK' => ?_
  unfold Oper.wp
  simp [execOp, hop, hm, hx, hrun, Result.andThen]
  exact hK' _ _ hK
/-- a store into a map whose run is known -/
theorem wpList_update_is {w w' : World} (hg : o.guard = none) (m x v : Operand) (t : TypeId) (hop : o.op = Op.mapUpdate t m x v) (mv key val : Value) (hm : a.eval m = mv) (hx : a.eval x = key) (hv : a.eval v = val)
    (hrun : (Instr.mapUpdate t mv key val).run P w = .ok () w') (hK : wpList P ops Q rest (a.put o.dst undef) w') : wpList P ops Q (o :: rest) a w := by
  refine wpList_plain hg fun K' hK' => ?_
  unfold Oper.wp
  simp [execOp, hop, hm, hx, hv, hrun, Result.andThen]
  exact hK' _ _ hK
end
end Go.Proofs.Ytmehdlflhllhdaa
