/- Contracts of slices.SortFunc under runes.Order and slices.Compact, on a row of names of the call's own, out of the library's contracts. -/
import Derived.Test.YtacjjfoelhckcaaDoorB0
import Derived.Test.YtacjjfoelhckcaaDoorB1
namespace Go.Proofs.YtacjjfoelhckcaaDoor
open Go.Shelf Go.RowKit Go.Sort Go.Lib Go.Proofs.YtacjjfoelhckcaaDoorW.PrintWords
set_option linter.unusedVariables false

theorem runesFrom_len (s : ByteArray) : ∀ (n p : Nat), (runesFrom s n p).length ≤ n := by
  intro n
  induction n with
  | zero => intro p; simp [runesFrom]
  | succ n ih =>
    intro p
    rw [runesFrom]
    split
    · rw [List.length_cons]; have := ih (p + (Utf8.decode s p).2); omega
    · simp
theorem nameFrom_len (s : ByteArray) : ∀ (l : List (Nat × Int)) (n : Nat), n + l.length ≤ 4611686018427387904 → nameFrom s (n : Int) l = true → n + l.length ≤ 16
  | [], n, _, h => by
    rw [nameFrom, Bool.and_eq_true, decide_eq_true_eq, decide_eq_true_eq] at h
    simp; omega
  | q :: l, n, hb, h => by
    rw [nameFrom, Bool.and_eq_true] at h
    rw [List.length_cons] at hb ⊢
    have h2 := h.2
    rw [w64 ((n : Int) + 1) (by omega)] at h2
    have := nameFrom_len s l (n + 1) (by omega) h2
    omega
def okName (s : ByteArray) : Bool := nameB s && decide (s.size ≤ 140737488351232)
theorem okName_runes {s : ByteArray} (h : okName s = true) : (runesL s).length ≤ 70368744177664 := by
  rw [okName, Bool.and_eq_true, decide_eq_true_eq] at h
  have hl : (runesL s).length = (runesAt s 0).length := by rw [runesL, List.length_map]
  have hr : (runesAt s 0).length ≤ s.size - 0 := runesFrom_len s (s.size - 0) 0
  have := nameFrom_len s (runesAt s 0) 0 (by omega) h.1
  omega
def NameT : Type := { s : ByteArray // okName s = true }
instance : Inhabited NameT := ⟨⟨⟨#[97]⟩, by decide +kernel⟩⟩
def encN (x : NameT) : Value := .string x.1
def cfN (x y : NameT) : Int := cmpL (runesL x.1) (runesL y.1)
theorem ltN (x y : NameT) : ltOf cfN x y = true ↔ cmpL (runesL x.1) (runesL y.1) < 0 := ⟨fun h => of_decide_eq_true h, fun h => decide_eq_true h⟩
theorem geN (x y : NameT) : ltOf cfN x y = false ↔ ¬ cmpL (runesL x.1) (runesL y.1) < 0 := ⟨fun h => of_decide_eq_false h, fun h => decide_eq_false h⟩
theorem swoN : SWO (ltOf cfN) where
  irrefl x := by
    have h0 : cmpL (runesL x.1) (runesL x.1) = 0 := (cmpL_zero _ _).2 rfl
    rw [geN]; omega
  trans x y z h1 h2 := by
    rw [ltN] at *
    exact (cmpL_tr _ _ _).2.1 h1 (by omega)
  ntrans x y z h1 h2 := by
    rw [geN] at *
    have s1 := cmpL_swap (runesL x.1) (runesL y.1)
    have s2 := cmpL_swap (runesL y.1) (runesL z.1)
    have s3 := cmpL_swap (runesL x.1) (runesL z.1)
    have := (cmpL_tr (runesL z.1) (runesL y.1) (runesL x.1)).1 (by omega) (by omega)
    omega
theorem totN (x y : NameT) (h1 : ltOf cfN x y = false) (h2 : ltOf cfN y x = false) : x = y := by
  rw [geN] at *
  have s1 := cmpL_swap (runesL x.1) (runesL y.1)
  have h3 : cmpL (runesL x.1) (runesL y.1) = 0 := by omega
  have hx := x.2
  rw [okName, Bool.and_eq_true] at hx
  exact Subtype.ext (runesL_inj hx.1 ((cmpL_zero _ _).1 h3))
theorem cmpLaysN (blk off size : Nat) (w : World) : CmpLays1 Tryd.prog 117 #[] encN cfN blk off size w := by
  intro m os dk hs x y
  have e : (#[encN x, encN y] ++ #[] : Array Value) = #[.string x.1, .string y.1] := by simp [encN]
  rw [e]
  refine (order_calls x.1 y.1 (okName_runes x.2) (okName_runes y.2) _).mono ?_
  rintro e w' ⟨he, o1, o2, hw⟩
  refine ⟨he, 2, #[o1, o2], ?_⟩
  rw [hw, alloc_eq_grow, alloc_eq_grow]
  generalize sortWorld encN w blk off m dk os = W
  show grow (grow W.drew.drew #[o1]) #[o2] = _
  rw [grow_grow]
  rfl
def sortN (xs : List ByteArray) : List ByteArray := xs.mergeSort fun x y => decide (cmpL (runesL x) (runesL y) ≤ 0)
theorem lift_names : ∀ xs : List ByteArray, (∀ x ∈ xs, okName x = true) → ∃ d : List NameT, d.map (·.1) = xs
  | [], _ => ⟨[], rfl⟩
  | x :: xs, h => by
    obtain ⟨d, hd⟩ := lift_names xs fun y hy => h y (List.mem_cons_of_mem _ hy)
    exact ⟨⟨x, h x (List.mem_cons_self ..)⟩ :: d, congrArg (x :: ·) hd⟩
theorem sort_own {w : World} {base : Nat} {ok : Nat → Prop} {A : Option Addr} {c : Nat} {xs : List ByteArray} (h : Kd.R Kd.string 9 w base ok (.slice A xs.length c) xs) (hn : ∀ x ∈ xs, okName x = true) (hlen : xs.length ≤ 1000000) (hb : base ≤ w.heap.size) :
    Calls Tryd.prog 116 #[.slice A xs.length c, .func (.func 117) #[] #[]] w fun e w' => e = .returned (.tuple #[]) ∧ Kd.R Kd.string 9 w' base ok (.slice A xs.length c) (sortN xs) ∧ Below base w w' := by
  have hsl : (sortN xs).length = xs.length := List.length_mergeSort xs
  rcases own_block h with ⟨hv, hx⟩ | ⟨g, cap, cur, hv, hg, hh, hc, hm, hs, ht, hok⟩
  · subst hx
    have hS := AnyF.slices_SortFunc_none (P := Tryd.prog) (ρ := Tryd.sortL_ren) { Tryd.sortL with } A c (.func (.func 117) #[] #[]) w
    change Calls Tryd.prog 116 _ _ _ at hS
    refine hS.mono ?_
    rintro e w' ⟨he, rfl⟩
    have e0 : sortN [] = [] := by simp [sortN]
    rw [e0]
    exact ⟨he, h, Below.refl _ _⟩
  · injection hv with hA _ hC
    subst hA hC
    obtain ⟨d, hd⟩ : ∃ d : Array NameT, d.toList.map (·.1) = xs := by
      obtain ⟨d, hd⟩ := lift_names xs hn
      exact ⟨d.toArray, by simpa using hd⟩
    have hds : d.size = xs.length := by rw [← hd]; simp
    have hde : d.toList.map encN = xs.map Value.string := by rw [← hd, List.map_map]; rfl
    have hH := holds_own encN w g d cur 9 hh (by omega) (by rw [hds, ht, hde])
    have eg : ∀ args w, (callFunc 117 args).run Tryd.prog w = .ok (.enter 117 args) w := enters_of Tryd.func117 (by kernel_rfl) rfl
    have hlt : g < w.heap.size := (Array.getElem?_eq_some_iff.1 hh).1
    have hS := Any.slices_SortFunc_total Tryd.sortL encN (fun _ => rfl) cfN swoN 117 #[] g 0 c d w eg (cmpLaysN _ _ _ _) hH hlt (by omega) totN
    change Calls Tryd.prog 116 _ _ _ at hS
    rw [hds] at hS
    refine hS.mono ?_
    rintro e w' ⟨he, n, os, hw⟩
    generalize hd' : (d.toList.mergeSort fun x y => !(ltOf cfN) y x).toArray = d' at hw
    have hl' : d'.toList = d.toList.mergeSort fun x y => !(ltOf cfN) y x := by rw [← hd']
    have hs' : d'.size = xs.length := by rw [← hds, ← Array.length_toList, hl', List.length_mergeSort, Array.length_toList]
    have hm' : d'.toList.map (·.1) = sortN xs := by
      rw [hl', ← hd, sortN]
      refine List.map_mergeSort fun a _ b _ => ?_
      have s1 := cmpL_swap (runesL a.1) (runesL b.1)
      by_cases hq : cmpL (runesL a.1) (runesL b.1) ≤ 0
      · rw [decide_eq_true hq]
        rw [(geN b a).2 (by omega)]; rfl
      · rw [decide_eq_false hq]
        rw [(ltN b a).2 (by omega)]; rfl
    have hw2 : w' = grow (putRow encN (Sort.ahead w n) g 0 d') os := hw
    refine ⟨he, ?_, ?_⟩
    · have hb2 := put_block encN w g n d' cur 9 (0, 0) os hh
      rw [← hw2] at hb2
      have := block_own (xs := sortN xs) (ok := ok) hg hb2 (by omega) hm (by rw [put_size]; exact hs) (by
        rw [put_take encN d' cur (by omega) _ (by omega), ← hm', List.map_map, List.take_of_length_le (by simp)]; rfl) hok
      rw [hsl] at this
      exact this
    · rw [hw2]; exact put_below encN w g n base d' os hg hb
def compN (xs : List ByteArray) : List ByteArray := compactUpTo xs.toArray xs.toArray.size
theorem comp_own {w : World} {base : Nat} {ok : Nat → Prop} {A : Option Addr} {c : Nat} {xs : List ByteArray} (h : Kd.R Kd.string 9 w base ok (.slice A xs.length c) xs) (hb : base ≤ w.heap.size) :
    Calls Tryd.prog 118 #[.slice A xs.length c] w fun e w' => ∃ v0 : Value, e = .returned v0 ∧ Kd.R Kd.string 9 w' base ok v0 (compN xs) ∧ Below base w w' := by
  have small : xs.length < 2 → compN xs = xs := by
    intro h2
    have hall : ∀ j, j < xs.toArray.size → keeps xs.toArray j = true := fun j hj => by
      have : j = 0 := by simp at hj; omega
      subst this
      simp [keeps]
    rw [compN, compactUpTo_all _ _ hall, range_map_get]
  by_cases h2 : xs.length < 2
  · rw [small h2]
    have h2' : decide ((xs.length : Int) < 2) = true := decide_eq_true (by omega)
    generalize hn : xs.length = n at *
    have H := Lib.hid h
    clear h
    go_enter Tryd.func118, Tryd.ntmps118
    go_wp2
    go_ret
    exact ⟨_, rfl, H.out, Below.refl _ _⟩
  · rcases own_block h with ⟨hv, hx⟩ | ⟨g, cap, cur, hv, hg, hh, hc, hm, hs, ht, hok⟩
    · subst hx; simp at h2
    · injection hv with hA _ hC
      subst hA hC
      have hH := holds_own Value.string w g xs.toArray cur 9 hh (by simp; omega) (by simpa using ht)
      have he1 : EqlAt Tryd.prog 9 Value.string (fun x y : ByteArray => decide (x = y)) := by
        have e : (fun x y : ByteArray => x.toList == y.toList) = fun x y => decide (x = y) := by
          funext x y
          by_cases hxy : x = y
          · subst hxy; simp
          · rw [decide_eq_false hxy]
            refine beq_eq_false_iff_ne.2 fun hq => hxy ?_
            rw [ByteArray.toList_eq, ByteArray.toList_eq] at hq
            cases x; cases y
            congr 1
            exact Array.toList_inj.1 hq
        rw [← e]; exact EqlAt.string _ _
      have he2 : NeqAt Tryd.prog 9 Value.string (fun x y : ByteArray => decide (x = y)) := by
        have e : (fun x y : ByteArray => x.toList == y.toList) = fun x y => decide (x = y) := by
          funext x y
          by_cases hxy : x = y
          · subst hxy; simp
          · rw [decide_eq_false hxy]
            refine beq_eq_false_iff_ne.2 fun hq => hxy ?_
            rw [ByteArray.toList_eq, ByteArray.toList_eq] at hq
            cases x; cases y
            congr 1
            exact Array.toList_inj.1 hq
        rw [← e]; exact NeqAt.string _ _
      have hS := AnyE.slices_Compact Tryd.compL Value.string (fun _ => rfl) he1 he2 ⟨#[]⟩ Tryd.zeroValue9 g 0 c xs.toArray w hH (by unfold maxLen at hm; simp; omega) (by simpa using hc)
      change Calls Tryd.prog 118 _ _ _ at hS
      have hsz : xs.toArray.size = xs.length := by simp
      have hcl : (compactUpTo xs.toArray xs.toArray.size).length ≤ xs.length := by
        rw [compactUpTo, List.length_map]
        refine Nat.le_trans (List.length_filter_le _ _) ?_
        simp
      have eN : compN xs = compactUpTo xs.toArray xs.toArray.size := rfl
      rw [← eN] at hS hcl
      rw [hsz] at hS
      refine hS.mono ?_
      rintro e w' ⟨he, q, hw⟩
      generalize hd' : (compN xs ++ List.replicate (xs.length - (compN xs).length) (⟨#[]⟩ : ByteArray)).toArray = d' at hw
      have hl' : d'.toList = compN xs ++ List.replicate (xs.length - (compN xs).length) ⟨#[]⟩ := by rw [← hd']
      have hs' : d'.size = xs.length := by rw [← Array.length_toList, hl', List.length_append, List.length_replicate]; omega
      have hw2 : w' = grow (putRow Value.string (Sort.ahead w q) g 0 d') #[] := by rw [grow_empty]; exact hw
      refine ⟨_, he, ?_, ?_⟩
      · have hb2 := put_block Value.string w g q d' cur 9 (0, 0) #[] hh
        rw [← hw2] at hb2
        exact block_own (xs := compN xs) (ok := ok) hg hb2 (by omega) hm (by rw [put_size]; exact hs) (by
          rw [put_take Value.string d' cur (by omega) _ (by omega), hl', List.take_left]) hok
      · rw [hw2]; exact put_below Value.string w g q base d' #[] hg hb
theorem comp_own_n {w : World} {base : Nat} {ok : Nat → Prop} {A : Option Addr} {c n : Nat} {xs : List ByteArray} (hn : xs.length = n) (h : Kd.R Kd.string 9 w base ok (.slice A n c) xs) (hb : base ≤ w.heap.size) :
    Calls Tryd.prog 118 #[.slice A n c] w fun e w' => ∃ v0 : Value, e = .returned v0 ∧ Kd.R Kd.string 9 w' base ok v0 (compN xs) ∧ Below base w w' := by
  subst hn
  exact comp_own h hb
theorem sortN_len (xs : List ByteArray) : (sortN xs).length = xs.length := List.length_mergeSort xs
def vars_tail.f (xs : List ByteArray) : Option (List ByteArray) := if xs.all okName = true ∧ xs.length ≤ 1000000 then some (compN (sortN xs)) else none
end Go.Proofs.YtacjjfoelhckcaaDoor
