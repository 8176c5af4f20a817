/- A row of strings of the call's own, as the library's contracts on rows see it. -/
import Derived.Test.YtacjjfoelhckcaaDoorA11
import Derived.Sort.Grow
namespace Go.Proofs.YtacjjfoelhckcaaDoor
open Go.RowKit Go.Sort Go.Lib Go.Proofs.YtacjjfoelhckcaaDoorW.PrintWords
set_option linter.unusedVariables false

theorem reps_string {xs : List ByteArray} {inner : List Value} (h : Reps (fun x cs => cs = [Value.string x]) 1 xs inner) : inner = xs.map Value.string := by
  obtain ⟨h1, h2⟩ := h
  refine List.ext_getElem? fun j => ?_
  by_cases hj : j < xs.length
  · have := h2 j xs[j] (List.getElem?_eq_getElem hj)
    rw [Nat.mul_one] at this
    have e := congrArg (fun l => l[0]?) this
    simp only [List.getElem?_take, List.getElem?_drop] at e
    simp at e
    rw [e]
    simp [hj]
  · rw [List.getElem?_eq_none (by omega), List.getElem?_eq_none (by simp; omega)]
theorem string_reps (xs : List ByteArray) : Reps (fun x cs => cs = [Value.string x]) 1 xs (xs.map Value.string) := by
  refine ⟨by simp, fun j x hx => ?_⟩
  obtain ⟨hj, e⟩ := List.getElem?_eq_some_iff.1 hx
  rw [Nat.mul_one, List.drop_eq_getElem_cons (by simpa using hj)]
  simp [e]
theorem own_block {w : World} {base : Nat} {ok : Nat → Prop} {v : Value} {xs : List ByteArray} (h : Kd.R Kd.string 9 w base ok v xs) :
    (v = .slice none 0 0 ∧ xs = []) ∨ ∃ (g cap : Nat) (cur : Array Value), v = .slice (some ⟨g, 0, none⟩) xs.length cap ∧ base ≤ g ∧ w.heap[g]? = some (.cells cur 9 (0, 0)) ∧ xs.length ≤ cap ∧ cap ≤ maxLen ∧ cur.size = cap ∧ cur.toList.take xs.length = xs.map Value.string ∧ ok g := by
  obtain ⟨h0, inner, ⟨h1, h2⟩, hr⟩ := h
  have hr2 : Reps (fun x cs => cs = [Value.string x]) 1 xs inner := hr
  have hi := reps_string hr2
  rcases h2 with ⟨hv, hn⟩ | ⟨g, cap, cur, hv, hg, hh, hc, hm, hs, ht⟩
  · exact .inl ⟨hv, List.eq_nil_of_length_eq_zero hn⟩
  · have hs' : cur.size = cap * 1 := hs
    have ht' : cur.toList.take (xs.length * 1) = inner := ht
    rw [Nat.mul_one] at hs' ht'
    exact .inr ⟨g, cap, cur, hv, hg, hh, hc, hm, hs', by rw [ht', hi], h0 g (by rw [hv]; rfl)⟩
theorem block_own {w : World} {base : Nat} {ok : Nat → Prop} {xs : List ByteArray} {g cap : Nat} {cur : Array Value} (hg : base ≤ g) (hh : w.heap[g]? = some (.cells cur 9 (0, 0))) (hc : xs.length ≤ cap) (hm : cap ≤ maxLen) (hs : cur.size = cap) (ht : cur.toList.take xs.length = xs.map Value.string) (hok : ok g) :
    Kd.R Kd.string 9 w base ok (.slice (some ⟨g, 0, none⟩) xs.length cap) xs := by
  refine ⟨fun k hk => ?_, xs.map Value.string, ⟨by simp [Kd.string, Kd.scalar], .inr ⟨g, cap, cur, rfl, hg, hh, hc, hm, ?_, ?_⟩⟩, string_reps xs⟩
  · have : g = k := by simpa [Value.ownBlock] using hk
    rw [← this]; exact hok
  · show cur.size = cap * 1
    omega
  · show cur.toList.take (xs.length * 1) = _
    rw [Nat.mul_one]; exact ht
theorem put_take {α : Type} [Inhabited α] (enc : α → Value) (d : Array α) (c : Array Value) (h : d.size ≤ c.size) (n : Nat) (hn : n ≤ d.size) : (putCells enc 0 d c).toList.take n = (d.toList.take n).map enc := by
  refine List.ext_getElem? fun j => ?_
  by_cases hj : j < n
  · rw [List.getElem?_take, if_pos hj, List.map_take, List.getElem?_take, if_pos hj]
    simp only [putCells, Array.getElem?_toList, Array.getElem?_mapIdx, List.getElem?_map]
    have h1 : j < c.size := by omega
    have h2 : j < d.size := by omega
    rw [Array.getElem?_eq_getElem h1, Array.getElem?_eq_getElem h2]
    simp [h2]
  · rw [List.getElem?_take, if_neg hj, List.map_take, List.getElem?_take, if_neg hj]
theorem put_size {α : Type} [Inhabited α] (enc : α → Value) (d : Array α) (c : Array Value) : (putCells enc 0 d c).size = c.size := by simp [putCells]
theorem put_block {α : Type} [Inhabited α] (enc : α → Value) (w : World) (g n : Nat) (d : Array α) (cur : Array Value) (t : TypeId) (fr : Nat × Nat) (os : Array Obj) (hh : w.heap[g]? = some (.cells cur t fr)) : (grow (putRow enc (Sort.ahead w n) g 0 d) os).heap[g]? = some (.cells (putCells enc 0 d cur) t fr) := by
  obtain ⟨hlt, _⟩ := Array.getElem?_eq_some_iff.1 hh
  show ((w.heap.modify g (onCells (putCells enc 0 d))) ++ os)[g]? = _
  rw [Array.getElem?_append_left (by simpa using hlt), Array.getElem?_modify, if_pos rfl, hh]
  rfl
theorem put_below {α : Type} [Inhabited α] (enc : α → Value) (w : World) (g n base : Nat) (d : Array α) (os : Array Obj) (hg : base ≤ g) (hbw : base ≤ w.heap.size) : Below base w (grow (putRow enc (Sort.ahead w n) g 0 d) os) := by
  refine ⟨rfl, rfl, rfl, ?_, fun k hk => ?_⟩
  · show w.heap.size ≤ ((w.heap.modify g (onCells (putCells enc 0 d))) ++ os).size
    simp
  · show ((w.heap.modify g (onCells (putCells enc 0 d))) ++ os)[k]? = _
    rw [Array.getElem?_append_left (by simp; omega), Array.getElem?_modify, if_neg (by omega)]
theorem holds_own {α : Type} [Inhabited α] (enc : α → Value) (w : World) (g : Nat) (d : Array α) (cur : Array Value) (t : TypeId) (hh : w.heap[g]? = some (.cells cur t (0, 0))) (hc : d.size ≤ cur.size) (ht : cur.toList.take d.size = d.toList.map enc) : Holds enc w g 0 d := by
  intro j hj
  have hcell : cur[j]? = some (enc d[j]!) := by
    have := congrArg (fun l => l[j]?) ht
    simp only [List.getElem?_take, if_pos hj, List.getElem?_map, Array.getElem?_toList] at this
    rw [this, Array.getElem?_eq_getElem hj, getElem!_pos d j hj]
    rfl
  refine ⟨?_, ?_⟩
  · rw [Nat.zero_add]
    unfold World.cell?
    rw [hh]
    simpa using hcell
  · unfold World.frozen?
    rw [hh]
    simp
end Go.Proofs.YtacjjfoelhckcaaDoor
