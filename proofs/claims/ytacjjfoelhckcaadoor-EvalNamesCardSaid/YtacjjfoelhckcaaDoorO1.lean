/- How what a row reads as data opens: to a plain value of a kind, with the form's bounds. Over any program. -/
import Derived.Test.YtacjjfoelhckcaaDoorWWords
import Derived.SizedLaws
import Derived.OpenShut
import Derived.ProofKit
namespace Go.Proofs.YtacjjfoelhckcaaDoor
open Go.RowKit Go.Proofs.YtacjjfoelhckcaaDoorW.PrintWords

/-- What reads as data of type t is a value of kind d, of which ok holds. -/
def Opens {α : Type} (P : Program) (d : Kd α) (t : TypeId) (ok : α → Prop) : Prop :=
  ∀ {H : Type} (enc : TypeId × Value → H) (W : World) (sp : Nat → Bool) (fuel : Nat) (cs : List Value) (y : DataW H × List MemPlace),
    DataW.trod enc P W 0 sp true fuel t cs = some y → (y.1.weights P t).all (· ≤ reachBytes) = true → ∃ x, d.K W x cs ∧ ok x

theorem opens_int {P : Program} {t : TypeId} (k : IntKind) (ht : P.underlying t = some (.int k)) : Opens P (Kd.int k) t (fun n => (Lit.int k n).wf = true) := by
  intro H enc W sp fuel cs y h _
  cases fuel with
  | zero => simp [DataW.trod] at h
  | succ fuel =>
    rcases cs with _ | ⟨c, _ | ⟨c2, cs⟩⟩
    · simp [DataW.trod, ht] at h
    · cases c <;> simp [DataW.trod, ht] at h
      rename_i k' n
      obtain ⟨⟨rfl, hw⟩, rfl⟩ := h
      exact ⟨n, rfl, hw⟩
    · simp [DataW.trod, ht] at h
theorem opens_bool {P : Program} {t : TypeId} (ht : P.underlying t = some .bool) : Opens P Kd.bool t (fun _ => True) := by
  intro H enc W sp fuel cs y h _
  cases fuel with
  | zero => simp [DataW.trod] at h
  | succ fuel =>
    rcases cs with _ | ⟨c, _ | ⟨c2, cs⟩⟩
    · simp [DataW.trod, ht] at h
    · cases c <;> simp [DataW.trod, ht] at h
      rename_i b
      exact ⟨b, rfl, trivial⟩
    · simp [DataW.trod, ht] at h
theorem opens_string {P : Program} {t : TypeId} (ht : P.underlying t = some .string) : Opens P Kd.string t (fun s => s.size ≤ 140737488351232) := by
  intro H enc W sp fuel cs y h hw
  cases fuel with
  | zero => simp [DataW.trod] at h
  | succ fuel =>
    rcases cs with _ | ⟨c, _ | ⟨c2, cs⟩⟩
    · simp [DataW.trod, ht] at h
    · cases c <;> simp [DataW.trod, ht] at h
      rename_i s
      obtain ⟨_, rfl⟩ := h
      refine ⟨s, rfl, ?_⟩
      simp [DataW.weights, reachBytes] at hw
      exact of_decide_eq_true hw
    · simp [DataW.trod, ht] at h

theorem mapM_range {β : Type} (f : Nat → Option β) : ∀ (n : Nat) (l : List β), (List.range n).mapM f = some l → l.length = n ∧ ∀ i : Nat, i < n → f i = l[i]? := by
  intro n
  induction n with
  | zero => intro l h; simp at h; subst h; exact ⟨rfl, by omega⟩
  | succ n ih =>
    intro l h
    rw [List.range_succ, List.mapM_append] at h
    simp only [Option.bind_eq_bind, Option.bind_eq_some_iff, Option.pure_def, Option.some.injEq, List.mapM_cons, List.mapM_nil] at h
    obtain ⟨l0, h0, l1, ⟨y, hy, z, rfl, rfl⟩, rfl⟩ := h
    obtain ⟨hl, hi⟩ := ih l0 h0
    refine ⟨by simp [hl], fun i hin => ?_⟩
    by_cases hlt : i < n
    · rw [hi i hlt, List.getElem?_append_left (by omega)]
    · obtain rfl : i = n := by omega
      rw [hy, List.getElem?_append_right (by omega), hl]; simp
theorem weightsAll_get {H : Type} {P : Program} {e : TypeId} : ∀ {l : List (DataW H)}, (DataW.weightsAll P e l).all (· ≤ reachBytes) = true → ∀ d ∈ l, (d.weights P e).all (· ≤ reachBytes) = true := by
  intro l
  induction l with
  | nil => intro _ d hd; cases hd
  | cons x l ih =>
    intro h d hd
    rw [DataW.weightsAll, List.all_append, Bool.and_eq_true] at h
    rcases List.mem_cons.1 hd with rfl | hd
    · exact h.1
    · exact ih h.2 d hd
theorem choose_list {α : Type} (n : Nat) (p : Nat → α → Prop) (h : ∀ i, i < n → ∃ x, p i x) : ∃ l : List α, l.length = n ∧ ∀ i x, l[i]? = some x → p i x := by
  induction n with
  | zero => exact ⟨[], rfl, by simp⟩
  | succ n ih =>
    obtain ⟨l, hl, hp⟩ := ih (fun i hi => h i (by omega))
    obtain ⟨x, hx⟩ := h n (by omega)
    refine ⟨l ++ [x], by simp [hl], fun i y hy => ?_⟩
    by_cases hlt : i < n
    · rw [List.getElem?_append_left (by omega)] at hy; exact hp i y hy
    · have hi : i < (l ++ [x]).length := (List.getElem?_eq_some_iff.1 hy).1
      have : i = n := by simp [hl] at hi; omega
      subst this
      rw [List.getElem?_append_right (by omega), hl] at hy
      simp at hy; subst hy; exact hx
theorem opens_slice {α : Type} {P : Program} {d : Kd α} {t e : TypeId} {ok : α → Prop} (B : Nat) (ht : P.underlying t = some (.slice e)) (hc : P.cellsOf e = d.sz) (hB : P.bytesOf e = B) (ho : Opens P d e ok) :
    Opens P (Kd.slice e d) t (fun xs => xs.length * B ≤ 140737488351232 ∧ ∀ x ∈ xs, ok x) := by
  intro H enc W sp fuel cs y h hw
  cases fuel with
  | zero => simp [DataW.trod] at h
  | succ fuel =>
    rcases cs with _ | ⟨c, _ | ⟨c2, cs⟩⟩
    · simp [DataW.trod, ht] at h
    · cases c <;> try (simp [DataW.trod, ht] at h; done)
      rename_i a len cap
      cases a with
      | none =>
        have : len = 0 ∧ cap = 0 := by
          rcases len with _ | len <;> rcases cap with _ | cap <;> simp [DataW.trod, ht] at h
          exact ⟨rfl, rfl⟩
        obtain ⟨rfl, rfl⟩ := this
        refine ⟨[], ⟨none, 0, rfl, Nat.le_refl _, Kd.C_nil _ _⟩, by simp⟩
      | some a =>
        simp only [DataW.trod, ht] at h
        split at h
        · rename_i hb
          obtain ⟨_, hlc, hcm⟩ := hb
          simp only [Option.bind_eq_some_iff, Option.map_eq_some_iff] at h
          obtain ⟨elems, hel, rest, hrest, rfl⟩ := h
          obtain ⟨hl, hi⟩ := mapM_range _ _ _ hel
          rw [DataW.weights] at hw
          simp only [ht] at hw
          rw [List.all_cons, Bool.and_eq_true, List.all_append, Bool.and_eq_true] at hw
          obtain ⟨hw0, hw1, _⟩ := hw
          have hcells : ∀ i, i < len → ∃ x, (∃ c, (W.cells? 0 (a.add (i * P.cellsOf e)) (P.cellsOf e)) = some c ∧ d.K W x c) ∧ ok x := by
            intro i hin
            have h1 := hi i hin
            have h2 : elems[i]? = some (elems[i]'(by omega)) := List.getElem?_eq_getElem (by omega)
            rw [h2, Option.bind_eq_some_iff] at h1
            obtain ⟨c, hc1, hc2⟩ := h1
            obtain ⟨x, hx, hox⟩ := ho enc W sp fuel c _ hc2 (weightsAll_get hw1 _ (List.mem_map.2 ⟨_, List.getElem_mem (by omega), rfl⟩))
            exact ⟨x, ⟨c, hc1, hx⟩, hox⟩
          obtain ⟨l, hll, hp⟩ := choose_list len _ hcells
          refine ⟨l, ⟨some a, cap, by rw [hll], by omega, ?_⟩, ?_, ?_⟩
          · have hm : len ≤ 9223372036854775807 := Nat.le_trans hlc (by simpa [maxLen] using hcm)
            refine (⟨rfl, by rw [hll]; exact hm, fun _ => ⟨a, rfl, fun j p hj => ?_⟩⟩ : ReadsRow _ _ _ _ _ _)
            obtain ⟨⟨c, hcc, hk⟩, _⟩ := hp j p hj
            refine ⟨c, d.K_len hk, hk, fun i u hi => ?_⟩
            rw [World.cells?] at hcc
            split at hcc
            · obtain ⟨hl3, hi3⟩ := mapM_range _ _ _ hcc
              have hlt : i < P.cellsOf e := by rw [← hl3]; exact (List.getElem?_eq_some_iff.1 hi).1
              have := hi3 i hlt
              rw [hi, hc] at this
              rw [← this, Addr.add_add]
            · cases hcc
          · simp [reachBytes] at hw0
            rw [hB] at hw0
            refine Nat.le_trans (Nat.mul_le_mul_right _ ?_) hw0
            omega
          · intro x hx
            obtain ⟨i, hi2, rfl⟩ := List.getElem_of_mem hx
            exact (hp i _ (List.getElem?_eq_getElem hi2)).2
        · cases h
    · simp [DataW.trod, ht] at h

theorem opens_iso {α β : Type} {P : Program} {d : Kd α} {t : TypeId} {ok : α → Prop} (f : β → α) (g : α → β) (hfg : ∀ x, f (g x) = x) (h : Opens P d t ok) : Opens P (Kd.iso d f) t (fun y => ok (f y)) := by
  intro H enc W sp fuel cs y hy hw
  obtain ⟨x, hx, ho⟩ := h enc W sp fuel cs y hy hw
  exact ⟨g x, by show d.K W (f (g x)) cs; rw [hfg]; exact hx, by show ok (f (g x)); rw [hfg]; exact ho⟩
theorem opens_struct4 {α0 α1 α2 α3 : Type} {P : Program} {d0 : Kd α0} {d1 : Kd α1} {d2 : Kd α2} {d3 : Kd α3} {t t0 t1 t2 t3 : TypeId} {fs : Array Field} {ok0 : α0 → Prop} {ok1 : α1 → Prop} {ok2 : α2 → Prop} {ok3 : α3 → Prop}
    (ht : P.underlying t = some (.struct fs)) (hfs : fs.toList.map (fun f => (f.type, f.offset)) = [(t0, 0), (t1, 1), (t2, 2), (t3, 3)]) (hc : P.cellsOf t = 4) (c0 : P.cellsOf t0 = 1) (c1 : P.cellsOf t1 = 1) (c2 : P.cellsOf t2 = 1) (c3 : P.cellsOf t3 = 1)
    (o0 : Opens P d0 t0 ok0) (o1 : Opens P d1 t1 ok1) (o2 : Opens P d2 t2 ok2) (o3 : Opens P d3 t3 ok3) :
    Opens P (Kd.pair d0 (Kd.pair d1 (Kd.pair d2 d3))) t (fun x => ok0 x.1 ∧ ok1 x.2.1 ∧ ok2 x.2.2.1 ∧ ok3 x.2.2.2) := by
  intro H enc W sp fuel cs y h hw
  cases fuel with
  | zero => simp [DataW.trod] at h
  | succ fuel =>
    obtain ⟨F0, F1, F2, F3, hF⟩ : ∃ F0 F1 F2 F3, fs.toList = [F0, F1, F2, F3] := by
      match hl : fs.toList with
      | [a, b, c, d] => exact ⟨a, b, c, d, rfl⟩
      | [] => simp [hl] at hfs
      | [_] => simp [hl] at hfs
      | [_, _] => simp [hl] at hfs
      | [_, _, _] => simp [hl] at hfs
      | _ :: _ :: _ :: _ :: _ :: _ => simp [hl] at hfs
    rw [hF] at hfs
    simp only [List.map_cons, List.map_nil, List.cons.injEq, Prod.mk.injEq, and_true] at hfs
    obtain ⟨⟨rfl, e0⟩, ⟨rfl, e1⟩, ⟨rfl, e2⟩, rfl, e3⟩ := hfs
    simp only [DataW.trod, ht] at h
    split at h
    · rename_i hl
      rw [hc] at hl
      obtain ⟨x0, x1, x2, x3, rfl⟩ : ∃ x0 x1 x2 x3, cs = [x0, x1, x2, x3] := by
        match cs, hl with
        | [a, b, c, d], _ => exact ⟨a, b, c, d, rfl⟩
      rw [hF] at h
      simp only [Option.map_eq_some_iff, List.mapM_cons, List.mapM_nil, Option.bind_eq_bind, Option.bind_eq_some_iff, Option.pure_def, Option.some.injEq, e0, e1, e2, e3, c0, c1, c2, c3, List.drop_zero, List.drop_succ_cons, List.take_succ_cons, List.take_zero] at h
      obtain ⟨xs, ⟨y0, h0, _, ⟨y1, h1, _, ⟨y2, h2, _, ⟨y3, h3, _, rfl, rfl⟩, rfl⟩, rfl⟩, rfl⟩, rfl⟩ := h
      rw [DataW.weights] at hw
      simp only [ht, hF, List.map_cons, List.map_nil, DataW.weightsEach, List.all_append, Bool.and_eq_true, List.append_nil] at hw
      obtain ⟨w0, w1, w2, w3⟩ := hw
      obtain ⟨v0, k0, q0⟩ := o0 enc W sp fuel _ _ h0 w0
      obtain ⟨v1, k1, q1⟩ := o1 enc W sp fuel _ _ h1 w1
      obtain ⟨v2, k2, q2⟩ := o2 enc W sp fuel _ _ h2 w2
      obtain ⟨v3, k3, q3⟩ := o3 enc W sp fuel _ _ h3 (by simpa using w3)
      exact ⟨(v0, v1, v2, v3), ⟨[x0], _, rfl, k0, [x1], _, rfl, k1, [x2], _, rfl, k2, k3⟩, q0, q1, q2, q3⟩
    · cases h

/-- What a parameter that is a struct is. -/
theorem Opens.param_struct {α : Type} {P : Program} {d : Kd α} {t : TypeId} {ok : α → Prop} {fs : Array Field} {H : Type} {enc : TypeId × Value → H} {W : World} {sp : Nat → Bool} {v : Value} {y : DataW H} {ps : List MemPlace} {base : Nat} (ho : Opens P d t ok)
    (ht : P.underlying t = some (.struct fs)) (hv : Value.okWide P W .any base t v) (h : DataW.Trod enc P W 0 sp true t v y ps) (hw : (y.weights P t).all (· ≤ reachBytes) = true) : ∃ cs x, v = .agg cs ∧ d.K W x cs.toList ∧ ok x := by
  obtain ⟨cs, rfl, _⟩ := Go.WideShapes.okWide_struct ht hv
  obtain ⟨fuel, hf⟩ := h
  obtain ⟨x, hx, hk⟩ := ho enc W sp fuel _ _ hf hw
  exact ⟨cs, x, rfl, hx, hk⟩
/-- .. a slice. -/
theorem Opens.param_slice {α : Type} {P : Program} {d : Kd α} {t e : TypeId} {ok : List α → Prop} {H : Type} {enc : TypeId × Value → H} {W : World} {sp : Nat → Bool} {v : Value} {y : DataW H} {ps : List MemPlace} {base : Nat} {e' : Nat} (ho : Opens P (Kd.slice e' d) t ok)
    (ht : P.underlying t = some (.slice e)) (hv : Value.okWide P W .any base t v) (h : DataW.Trod enc P W 0 sp true t v y ps) (hw : (y.weights P t).all (· ≤ reachBytes) = true) : ∃ A c l, v = .slice A l.length c ∧ l.length ≤ c ∧ d.C W A l.length l ∧ ok l := by
  obtain ⟨a, len, cap, rfl⟩ := Go.WideShapes.okWide_slice ht hv
  obtain ⟨fuel, hf⟩ := h
  obtain ⟨x, hx, hk⟩ := ho enc W sp fuel _ _ hf hw
  obtain ⟨A, c, hs, hl, hC⟩ := hx
  simp [Value.cells] at hs
  obtain ⟨rfl, rfl, rfl⟩ := hs
  exact ⟨a, cap, x, rfl, hl, hC, hk⟩
/-- .. a string. -/
theorem Opens.param_string {P : Program} {t : TypeId} {ok : ByteArray → Prop} {H : Type} {enc : TypeId × Value → H} {W : World} {sp : Nat → Bool} {v : Value} {y : DataW H} {ps : List MemPlace} {base : Nat} (ho : Opens P Kd.string t ok)
    (ht : P.underlying t = some .string) (hv : Value.okWide P W .any base t v) (h : DataW.Trod enc P W 0 sp true t v y ps) (hw : (y.weights P t).all (· ≤ reachBytes) = true) : ∃ s, v = .string s ∧ ok s := by
  obtain ⟨s, rfl⟩ := Go.WideShapes.okWide_string ht hv
  obtain ⟨fuel, hf⟩ := h
  obtain ⟨x, hx, hk⟩ := ho enc W sp fuel _ _ hf hw
  have : s = x := by
    have hx' : [Value.string s] = [Value.string x] := hx
    simpa using hx'
  exact ⟨s, rfl, this ▸ hk⟩
/-- .. an int. -/
theorem Opens.param_int {P : Program} {t : TypeId} {k : IntKind} {ok : Int → Prop} {H : Type} {enc : TypeId × Value → H} {W : World} {sp : Nat → Bool} {v : Value} {y : DataW H} {ps : List MemPlace} {base : Nat} (ho : Opens P (Kd.int k) t ok)
    (ht : P.underlying t = some (.int k)) (hv : Value.okWide P W .any base t v) (h : DataW.Trod enc P W 0 sp true t v y ps) (hw : (y.weights P t).all (· ≤ reachBytes) = true) : ∃ s, v = .int k s ∧ ok s := by
  obtain ⟨s, rfl⟩ := Go.WideShapes.okWide_int ht hv
  obtain ⟨fuel, hf⟩ := h
  obtain ⟨x, hx, hk⟩ := ho enc W sp fuel _ _ hf hw
  have : s = x := by
    have hx' : [Value.int k s] = [Value.int k x] := hx
    simpa using hx'
  exact ⟨s, rfl, this ▸ hk⟩

/-- Every argument reads behind the call as it read before, where the call has only added to the heap. -/
theorem trodAll_below {H : Type} {enc : TypeId × Value → H} {P : Program} (hl : laidOutB P = true) {W W' : World} (hb : Below W.heap.size W W') : ∀ {ts : List TypeId} {vs : List Value} {ds : List (DataW H)} {ps : List MemPlace},
    (∀ t ∈ ts, P.readableRec t = true ∧ t < P.types.size) → DataW.TrodAll enc P W 0 (fun _ => true) true ts vs ds ps → DataW.TrodAll enc P W' 0 (fun b => decide (b < W.heap.size)) true ts vs ds ps
  | [], vs, ds, ps, _, h => by
    obtain ⟨rfl, rfl, rfl⟩ := Go.ChangeShapes.trodAll_nil h
    exact Go.ChangeShapes.trodAll_mk0
  | t :: ts, vs, ds, ps, hts, h => by
    obtain ⟨v, vs, d, ds, p, q, rfl, rfl, rfl, h0, h1⟩ := Go.ChangeShapes.trodAll_cons h
    have k := h0
    have lt : ∀ x ∈ p, x.block < W.heap.size := by obtain ⟨m, hm⟩ := k; exact DataW.trod_lt m _ _ _ hm
    exact ⟨p, q, Below.trod hl (hts t (by simp)).1 (hts t (by simp)).2 h0 hb lt, trodAll_below hl hb (fun t ht => hts t (by simp [ht])) h1, rfl⟩
end Go.Proofs.YtacjjfoelhckcaaDoor
