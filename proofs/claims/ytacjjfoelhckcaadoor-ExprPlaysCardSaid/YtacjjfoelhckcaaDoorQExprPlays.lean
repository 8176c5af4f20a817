import Derived.Test.YtacjjfoelhckcaaDoorWWords
import Derived.SizedLaws
import Derived.OpenShut
import Derived.ProofKit
import Derived.Test.YtacjjfoelhckcaaDoorA1
import Derived.Test.YtacjjfoelhckcaaDoorTie
import Derived.Test.YtacjjfoelhckcaaDoorCards
import Derived.Deep.DeepHandedRow
import Derived.Lib.LaidTab
import Derived.Test.YtacjjfoelhckcaaDoorPExprPlaysx0
import Derived.Test.YtacjjfoelhckcaaDoorPExprPlaysx1
import Derived.Test.YtacjjfoelhckcaaDoorPExprPlaysx2
import Derived.Test.YtacjjfoelhckcaaDoorPExprPlaysx3
import Derived.Test.YtacjjfoelhckcaaDoorPExprPlaysx4
import Derived.Test.YtacjjfoelhckcaaDoorPExprPlaysx5
import Derived.Test.YtacjjfoelhckcaaDoorPExprPlaysx6
import Derived.Test.YtacjjfoelhckcaaDoorPExprPlaysx7
import Derived.Test.YtacjjfoelhckcaaDoorPExprPlaysx8
import Derived.Test.YtacjjfoelhckcaaDoorPExprPlaysx9
import Derived.Test.YtacjjfoelhckcaaDoorPExprPlaysx10
import Derived.Test.YtacjjfoelhckcaaDoorPExprPlaysx11
import Derived.Test.YtacjjfoelhckcaaDoorM2
/- How what a row reads as data opens: to a plain value of a kind, with the form's bounds. Over any program. -/
namespace Go.Proofs.YtacjjfoelhckcaaDoor
open Go.RowKit Go.Proofs.YtacjjfoelhckcaaDoorW.PrintWords

def Opens {α : Type} (P : Program) (d : Kd α) (t : TypeId) (ok : α → Prop) : Prop :=
  ∀ {H : Type} (enc : TypeId × Value → H) (W : World) (sp : Nat → Bool) (fuel : Nat) (cs : List Value) (y : DataW H × List MemPlace),
    DataW.trod enc P W 0 sp true fuel t cs = some y → (y.1.weights P t).all (· ≤ reachBytes) = true → ∃ x, d.K W x cs ∧ ok x

theorem opens_int {P : Program} {t : TypeId} (k : IntKind) (ht : P.underlying t = some (.int k)) : Opens P (Kd.int k) t (fun n => (Lit.int k n).wf = true) := by
  intro H enc W sp fuel cs y h _
  cases fuel with
  | zero => simp [DataW.trod] at h
  | succ fuel =>
    rcases cs with _ | ⟨c, _ | ⟨c2, cs⟩⟩
    · simp [DataW.trod, ht] at h
    · cases c <;> simp [DataW.trod, ht] at h
      rename_i k' n
      obtain ⟨⟨rfl, hw⟩, rfl⟩ := h
      exact ⟨n, rfl, hw⟩
    · simp [DataW.trod, ht] at h
theorem opens_bool {P : Program} {t : TypeId} (ht : P.underlying t = some .bool) : Opens P Kd.bool t (fun _ => True) := by
  intro H enc W sp fuel cs y h _
  cases fuel with
  | zero => simp [DataW.trod] at h
  | succ fuel =>
    rcases cs with _ | ⟨c, _ | ⟨c2, cs⟩⟩
    · simp [DataW.trod, ht] at h
    · cases c <;> simp [DataW.trod, ht] at h
      rename_i b
      exact ⟨b, rfl, trivial⟩
    · simp [DataW.trod, ht] at h
theorem opens_string {P : Program} {t : TypeId} (ht : P.underlying t = some .string) : Opens P Kd.string t (fun s => s.size ≤ 140737488351232) := by
  intro H enc W sp fuel cs y h hw
  cases fuel with
  | zero => simp [DataW.trod] at h
  | succ fuel =>
    rcases cs with _ | ⟨c, _ | ⟨c2, cs⟩⟩
    · simp [DataW.trod, ht] at h
    · cases c <;> simp [DataW.trod, ht] at h
      rename_i s
      obtain ⟨_, rfl⟩ := h
      refine ⟨s, rfl, ?_⟩
      simp [DataW.weights, reachBytes] at hw
      exact of_decide_eq_true hw
    · simp [DataW.trod, ht] at h

theorem mapM_range {β : Type} (f : Nat → Option β) : ∀ (n : Nat) (l : List β), (List.range n).mapM f = some l → l.length = n ∧ ∀ i : Nat, i < n → f i = l[i]? := by
  intro n
  induction n with
  | zero => intro l h; simp at h; subst h; exact ⟨rfl, by omega⟩
  | succ n ih =>
    intro l h
    rw [List.range_succ, List.mapM_append] at h
    simp only [Option.bind_eq_bind, Option.bind_eq_some_iff, Option.pure_def, Option.some.injEq, List.mapM_cons, List.mapM_nil] at h
    obtain ⟨l0, h0, l1, ⟨y, hy, z, rfl, rfl⟩, rfl⟩ := h
    obtain ⟨hl, hi⟩ := ih l0 h0
    refine ⟨by simp [hl], fun i hin => ?_⟩
    by_cases hlt : i < n
    · rw [hi i hlt, List.getElem?_append_left (by omega)]
    · obtain rfl : i = n := by omega
      rw [hy, List.getElem?_append_right (by omega), hl]; simp
theorem weightsAll_get {H : Type} {P : Program} {e : TypeId} : ∀ {l : List (DataW H)}, (DataW.weightsAll P e l).all (· ≤ reachBytes) = true → ∀ d ∈ l, (d.weights P e).all (· ≤ reachBytes) = true := by
  intro l
  induction l with
  | nil => intro _ d hd; cases hd
  | cons x l ih =>
    intro h d hd
    rw [DataW.weightsAll, List.all_append, Bool.and_eq_true] at h
    rcases List.mem_cons.1 hd with rfl | hd
    · exact h.1
    · exact ih h.2 d hd
theorem choose_list {α : Type} (n : Nat) (p : Nat → α → Prop) (h : ∀ i, i < n → ∃ x, p i x) : ∃ l : List α, l.length = n ∧ ∀ i x, l[i]? = some x → p i x := by
  induction n with
  | zero => exact ⟨[], rfl, by simp⟩
  | succ n ih =>
    obtain ⟨l, hl, hp⟩ := ih (fun i hi => h i (by omega))
    obtain ⟨x, hx⟩ := h n (by omega)
    refine ⟨l ++ [x], by simp [hl], fun i y hy => ?_⟩
    by_cases hlt : i < n
    · rw [List.getElem?_append_left (by omega)] at hy; exact hp i y hy
    · have hi : i < (l ++ [x]).length := (List.getElem?_eq_some_iff.1 hy).1
      have : i = n := by simp [hl] at hi; omega
      subst this
      rw [List.getElem?_append_right (by omega), hl] at hy
      simp at hy; subst hy; exact hx
theorem opens_slice {α : Type} {P : Program} {d : Kd α} {t e : TypeId} {ok : α → Prop} (B : Nat) (ht : P.underlying t = some (.slice e)) (hc : P.cellsOf e = d.sz) (hB : P.bytesOf e = B) (ho : Opens P d e ok) :
    Opens P (Kd.slice e d) t (fun xs => xs.length * B ≤ 140737488351232 ∧ ∀ x ∈ xs, ok x) := by
  intro H enc W sp fuel cs y h hw
  cases fuel with
  | zero => simp [DataW.trod] at h
  | succ fuel =>
    rcases cs with _ | ⟨c, _ | ⟨c2, cs⟩⟩
    · simp [DataW.trod, ht] at h
    · cases c <;> try (simp [DataW.trod, ht] at h; done)
      rename_i a len cap
      cases a with
      | none =>
        have : len = 0 ∧ cap = 0 := by
          rcases len with _ | len <;> rcases cap with _ | cap <;> simp [DataW.trod, ht] at h
          exact ⟨rfl, rfl⟩
        obtain ⟨rfl, rfl⟩ := this
        refine ⟨[], ⟨none, 0, rfl, Nat.le_refl _, Kd.C_nil _ _⟩, by simp⟩
      | some a =>
        simp only [DataW.trod, ht] at h
        split at h
        · rename_i hb
          obtain ⟨_, hlc, hcm⟩ := hb
          simp only [Option.bind_eq_some_iff, Option.map_eq_some_iff] at h
          obtain ⟨elems, hel, rest, hrest, rfl⟩ := h
          obtain ⟨hl, hi⟩ := mapM_range _ _ _ hel
          rw [DataW.weights] at hw
          simp only [ht] at hw
          rw [List.all_cons, Bool.and_eq_true, List.all_append, Bool.and_eq_true] at hw
          obtain ⟨hw0, hw1, _⟩ := hw
          have hcells : ∀ i, i < len → ∃ x, (∃ c, (W.cells? 0 (a.add (i * P.cellsOf e)) (P.cellsOf e)) = some c ∧ d.K W x c) ∧ ok x := by
            intro i hin
            have h1 := hi i hin
            have h2 : elems[i]? = some (elems[i]'(by omega)) := List.getElem?_eq_getElem (by omega)
            rw [h2, Option.bind_eq_some_iff] at h1
            obtain ⟨c, hc1, hc2⟩ := h1
            obtain ⟨x, hx, hox⟩ := ho enc W sp fuel c _ hc2 (weightsAll_get hw1 _ (List.mem_map.2 ⟨_, List.getElem_mem (by omega), rfl⟩))
            exact ⟨x, ⟨c, hc1, hx⟩, hox⟩
          obtain ⟨l, hll, hp⟩ := choose_list len _ hcells
          refine ⟨l, ⟨some a, cap, by rw [hll], by omega, ?_⟩, ?_, ?_⟩
          · have hm : len ≤ 9223372036854775807 := Nat.le_trans hlc (by simpa [maxLen] using hcm)
            refine (⟨rfl, by rw [hll]; exact hm, fun _ => ⟨a, rfl, fun j p hj => ?_⟩⟩ : ReadsRow _ _ _ _ _ _)
            obtain ⟨⟨c, hcc, hk⟩, _⟩ := hp j p hj
            refine ⟨c, d.K_len hk, hk, fun i u hi => ?_⟩
            rw [World.cells?] at hcc
            split at hcc
            · obtain ⟨hl3, hi3⟩ := mapM_range _ _ _ hcc
              have hlt : i < P.cellsOf e := by rw [← hl3]; exact (List.getElem?_eq_some_iff.1 hi).1
              have := hi3 i hlt
              rw [hi, hc] at this
              rw [← this, Addr.add_add]
            · cases hcc
          · simp [reachBytes] at hw0
            rw [hB] at hw0
            refine Nat.le_trans (Nat.mul_le_mul_right _ ?_) hw0
            omega
          · intro x hx
            obtain ⟨i, hi2, rfl⟩ := List.getElem_of_mem hx
            exact (hp i _ (List.getElem?_eq_getElem hi2)).2
        · cases h
    · simp [DataW.trod, ht] at h

theorem opens_iso {α β : Type} {P : Program} {d : Kd α} {t : TypeId} {ok : α → Prop} (f : β → α) (g : α → β) (hfg : ∀ x, f (g x) = x) (h : Opens P d t ok) : Opens P (Kd.iso d f) t (fun y => ok (f y)) := by
  intro H enc W sp fuel cs y hy hw
  obtain ⟨x, hx, ho⟩ := h enc W sp fuel cs y hy hw
  exact ⟨g x, by show d.K W (f (g x)) cs; rw [hfg]; exact hx, by show ok (f (g x)); rw [hfg]; exact ho⟩
theorem opens_struct4 {α0 α1 α2 α3 : Type} {P : Program} {d0 : Kd α0} {d1 : Kd α1} {d2 : Kd α2} {d3 : Kd α3} {t t0 t1 t2 t3 : TypeId} {fs : Array Field} {ok0 : α0 → Prop} {ok1 : α1 → Prop} {ok2 : α2 → Prop} {ok3 : α3 → Prop}
    (ht : P.underlying t = some (.struct fs)) (hfs : fs.toList.map (fun f => (f.type, f.offset)) = [(t0, 0), (t1, 1), (t2, 2), (t3, 3)]) (hc : P.cellsOf t = 4) (c0 : P.cellsOf t0 = 1) (c1 : P.cellsOf t1 = 1) (c2 : P.cellsOf t2 = 1) (c3 : P.cellsOf t3 = 1)
    (o0 : Opens P d0 t0 ok0) (o1 : Opens P d1 t1 ok1) (o2 : Opens P d2 t2 ok2) (o3 : Opens P d3 t3 ok3) :
    Opens P (Kd.pair d0 (Kd.pair d1 (Kd.pair d2 d3))) t (fun x => ok0 x.1 ∧ ok1 x.2.1 ∧ ok2 x.2.2.1 ∧ ok3 x.2.2.2) := by
  intro H enc W sp fuel cs y h hw
  cases fuel with
  | zero => simp [DataW.trod] at h
  | succ fuel =>
    obtain ⟨F0, F1, F2, F3, hF⟩ : ∃ F0 F1 F2 F3, fs.toList = [F0, F1, F2, F3] := by
      match hl : fs.toList with
      | [a, b, c, d] => exact ⟨a, b, c, d, rfl⟩
      | [] => simp [hl] at hfs
      | [_] => simp [hl] at hfs
      | [_, _] => simp [hl] at hfs
      | [_, _, _] => simp [hl] at hfs
      | _ :: _ :: _ :: _ :: _ :: _ => simp [hl] at hfs
    rw [hF] at hfs
    simp only [List.map_cons, List.map_nil, List.cons.injEq, Prod.mk.injEq, and_true] at hfs
    obtain ⟨⟨rfl, e0⟩, ⟨rfl, e1⟩, ⟨rfl, e2⟩, rfl, e3⟩ := hfs
    simp only [DataW.trod, ht] at h
    split at h
    · rename_i hl
      rw [hc] at hl
      obtain ⟨x0, x1, x2, x3, rfl⟩ : ∃ x0 x1 x2 x3, cs = [x0, x1, x2, x3] := by
        match cs, hl with
        | [a, b, c, d], _ => exact ⟨a, b, c, d, rfl⟩
      rw [hF] at h
      simp only [Option.map_eq_some_iff, List.mapM_cons, List.mapM_nil, Option.bind_eq_bind, Option.bind_eq_some_iff, Option.pure_def, Option.some.injEq, e0, e1, e2, e3, c0, c1, c2, c3, List.drop_zero, List.drop_succ_cons, List.take_succ_cons, List.take_zero] at h
      obtain ⟨xs, ⟨y0, h0, _, ⟨y1, h1, _, ⟨y2, h2, _, ⟨y3, h3, _, rfl, rfl⟩, rfl⟩, rfl⟩, rfl⟩, rfl⟩ := h
      rw [DataW.weights] at hw
      simp only [ht, hF, List.map_cons, List.map_nil, DataW.weightsEach, List.all_append, Bool.and_eq_true, List.append_nil] at hw
      obtain ⟨w0, w1, w2, w3⟩ := hw
      obtain ⟨v0, k0, q0⟩ := o0 enc W sp fuel _ _ h0 w0
      obtain ⟨v1, k1, q1⟩ := o1 enc W sp fuel _ _ h1 w1
      obtain ⟨v2, k2, q2⟩ := o2 enc W sp fuel _ _ h2 w2
      obtain ⟨v3, k3, q3⟩ := o3 enc W sp fuel _ _ h3 (by simpa using w3)
      exact ⟨(v0, v1, v2, v3), ⟨[x0], _, rfl, k0, [x1], _, rfl, k1, [x2], _, rfl, k2, k3⟩, q0, q1, q2, q3⟩
    · cases h

theorem Opens.param_struct {α : Type} {P : Program} {d : Kd α} {t : TypeId} {ok : α → Prop} {fs : Array Field} {H : Type} {enc : TypeId × Value → H} {W : World} {sp : Nat → Bool} {v : Value} {y : DataW H} {ps : List MemPlace} {base : Nat} (ho : Opens P d t ok)
    (ht : P.underlying t = some (.struct fs)) (hv : Value.okWide P W .any base t v) (h : DataW.Trod enc P W 0 sp true t v y ps) (hw : (y.weights P t).all (· ≤ reachBytes) = true) : ∃ cs x, v = .agg cs ∧ d.K W x cs.toList ∧ ok x := by
  obtain ⟨cs, rfl, _⟩ := Go.WideShapes.okWide_struct ht hv
  obtain ⟨fuel, hf⟩ := h
  obtain ⟨x, hx, hk⟩ := ho enc W sp fuel _ _ hf hw
  exact ⟨cs, x, rfl, hx, hk⟩
theorem Opens.param_slice {α : Type} {P : Program} {d : Kd α} {t e : TypeId} {ok : List α → Prop} {H : Type} {enc : TypeId × Value → H} {W : World} {sp : Nat → Bool} {v : Value} {y : DataW H} {ps : List MemPlace} {base : Nat} {e' : Nat} (ho : Opens P (Kd.slice e' d) t ok)
    (ht : P.underlying t = some (.slice e)) (hv : Value.okWide P W .any base t v) (h : DataW.Trod enc P W 0 sp true t v y ps) (hw : (y.weights P t).all (· ≤ reachBytes) = true) : ∃ A c l, v = .slice A l.length c ∧ l.length ≤ c ∧ d.C W A l.length l ∧ ok l := by
  obtain ⟨a, len, cap, rfl⟩ := Go.WideShapes.okWide_slice ht hv
  obtain ⟨fuel, hf⟩ := h
  obtain ⟨x, hx, hk⟩ := ho enc W sp fuel _ _ hf hw
  obtain ⟨A, c, hs, hl, hC⟩ := hx
  simp [Value.cells] at hs
  obtain ⟨rfl, rfl, rfl⟩ := hs
  exact ⟨a, cap, x, rfl, hl, hC, hk⟩
theorem Opens.param_string {P : Program} {t : TypeId} {ok : ByteArray → Prop} {H : Type} {enc : TypeId × Value → H} {W : World} {sp : Nat → Bool} {v : Value} {y : DataW H} {ps : List MemPlace} {base : Nat} (ho : Opens P Kd.string t ok)
    (ht : P.underlying t = some .string) (hv : Value.okWide P W .any base t v) (h : DataW.Trod enc P W 0 sp true t v y ps) (hw : (y.weights P t).all (· ≤ reachBytes) = true) : ∃ s, v = .string s ∧ ok s := by
  obtain ⟨s, rfl⟩ := Go.WideShapes.okWide_string ht hv
  obtain ⟨fuel, hf⟩ := h
  obtain ⟨x, hx, hk⟩ := ho enc W sp fuel _ _ hf hw
  have : s = x := by
    have hx' : [Value.string s] = [Value.string x] := hx
    simpa using hx'
  exact ⟨s, rfl, this ▸ hk⟩
theorem Opens.param_int {P : Program} {t : TypeId} {k : IntKind} {ok : Int → Prop} {H : Type} {enc : TypeId × Value → H} {W : World} {sp : Nat → Bool} {v : Value} {y : DataW H} {ps : List MemPlace} {base : Nat} (ho : Opens P (Kd.int k) t ok)
    (ht : P.underlying t = some (.int k)) (hv : Value.okWide P W .any base t v) (h : DataW.Trod enc P W 0 sp true t v y ps) (hw : (y.weights P t).all (· ≤ reachBytes) = true) : ∃ s, v = .int k s ∧ ok s := by
  obtain ⟨s, rfl⟩ := Go.WideShapes.okWide_int ht hv
  obtain ⟨fuel, hf⟩ := h
  obtain ⟨x, hx, hk⟩ := ho enc W sp fuel _ _ hf hw
  have : s = x := by
    have hx' : [Value.int k s] = [Value.int k x] := hx
    simpa using hx'
  exact ⟨s, rfl, this ▸ hk⟩

theorem trodAll_below {H : Type} {enc : TypeId × Value → H} {P : Program} (hl : laidOutB P = true) {W W' : World} (hb : Below W.heap.size W W') : ∀ {ts : List TypeId} {vs : List Value} {ds : List (DataW H)} {ps : List MemPlace},
    (∀ t ∈ ts, P.readableRec t = true ∧ t < P.types.size) → DataW.TrodAll enc P W 0 (fun _ => true) true ts vs ds ps → DataW.TrodAll enc P W' 0 (fun b => decide (b < W.heap.size)) true ts vs ds ps
  | [], vs, ds, ps, _, h => by
    obtain ⟨rfl, rfl, rfl⟩ := Go.ChangeShapes.trodAll_nil h
    exact Go.ChangeShapes.trodAll_mk0
  | t :: ts, vs, ds, ps, hts, h => by
    obtain ⟨v, vs, d, ds, p, q, rfl, rfl, rfl, h0, h1⟩ := Go.ChangeShapes.trodAll_cons h
    have k := h0
    have lt : ∀ x ∈ p, x.block < W.heap.size := by obtain ⟨m, hm⟩ := k; exact DataW.trod_lt m _ _ _ hm
    exact ⟨p, q, Below.trod hl (hts t (by simp)).1 (hts t (by simp)).2 h0 hb lt, trodAll_below hl hb (fun t ht => hts t (by simp [ht])) h1, rfl⟩
end Go.Proofs.YtacjjfoelhckcaaDoor
/- What this program's rows read opens to; and the two tables of package runes, as the rows' list lays them. -/
namespace Go.Proofs.YtacjjfoelhckcaaDoor
open Go.RowKit Go.Proofs.YtacjjfoelhckcaaDoorW.PrintWords

theorem cells2 : Tryd.prog.cellsOf 2 = 1 := by kernel_rfl
theorem cells3 : Tryd.prog.cellsOf 3 = 1 := by kernel_rfl
theorem cells9 : Tryd.prog.cellsOf 9 = 1 := by kernel_rfl
theorem cells22 : Tryd.prog.cellsOf 22 = 1 := by kernel_rfl
theorem cells24 : Tryd.prog.cellsOf 24 = 4 := by kernel_rfl
theorem cells30 : Tryd.prog.cellsOf 30 = 1 := by kernel_rfl
theorem cells43 : Tryd.prog.cellsOf 43 = 1 := by kernel_rfl
theorem cells45 : Tryd.prog.cellsOf 45 = 4 := by kernel_rfl
theorem cells200 : Tryd.prog.cellsOf 200 = 2 := by kernel_rfl
theorem cells201 : Tryd.prog.cellsOf 201 = 26 := by kernel_rfl
theorem cells21 : Tryd.prog.cellsOf 21 = 1 := by kernel_rfl
theorem cells221 : Tryd.prog.cellsOf 221 = 3 := by kernel_rfl
theorem bytes3 : Tryd.prog.bytesOf 3 = 8 := by kernel_rfl
theorem bytes9 : Tryd.prog.bytesOf 9 = 16 := by kernel_rfl
theorem bytes30 : Tryd.prog.bytesOf 30 = 24 := by kernel_rfl
theorem bytes45 : Tryd.prog.bytesOf 45 = 56 := by kernel_rfl
def okI (n : Int) : Prop := (Lit.int .i64 n).wf = true
theorem okI.bounds {n : Int} (h : okI n) : -9223372036854775808 ≤ n ∧ n ≤ 9223372036854775807 := by
  simp [okI, Lit.wf] at h
  exact h
def okS (s : ByteArray) : Prop := s.size ≤ 140737488351232
def okR (B : Nat) {α : Type} (ok : α → Prop) (xs : List α) : Prop := xs.length * B ≤ 140737488351232 ∧ ∀ x ∈ xs, ok x
def okN (x : Int × Int × ByteArray × List Int) : Prop := okI x.1 ∧ okI x.2.1 ∧ okS x.2.2.1 ∧ okR 8 okI x.2.2.2
theorem opens2 : Opens Tryd.prog (Kd.int .i64) 2 okI := opens_int .i64 Tryd.underlying2
theorem opens3 : Opens Tryd.prog (Kd.int .i64) 3 okI := opens_int .i64 Tryd.underlying3
theorem opens9 : Opens Tryd.prog Kd.string 9 okS := opens_string Tryd.underlying9
theorem opens43 : Opens Tryd.prog (Kd.slice 3 (Kd.int .i64)) 43 (okR 8 okI) := opens_slice 8 Tryd.underlying43 cells3 bytes3 opens3
theorem opens37 : Opens Tryd.prog (Kd.slice 9 Kd.string) 37 (okR 16 okS) := opens_slice 16 Tryd.underlying37 cells9 bytes9 opens9
theorem opens45 : Opens Tryd.prog (Kd.pair (Kd.int .i64) (Kd.pair (Kd.int .i64) (Kd.pair Kd.string (Kd.slice 3 (Kd.int .i64))))) 45 okN :=
  opens_struct4 Tryd.underlying45 rfl cells45 cells3 cells2 cells9 cells43 opens3 opens2 opens9 opens43

/-! ### the two tables -/
theorem gLetters : Tryd.prog.globalNamed "sorrel/runes.letters" = some 0 := by kernel_rfl
theorem gZeros : Tryd.prog.globalNamed "sorrel/runes.zeros" = some 1 := by kernel_rfl
theorem gLettersType : (Tryd.prog.globals[0]?).map (·.type) = some 201 := by kernel_rfl
theorem gZerosType : (Tryd.prog.globals[1]?).map (·.type) = some 221 := by kernel_rfl
theorem int_of_trod' {H : Type} {enc : TypeId × Value → H} {P : Program} {w : World} {base : Nat} {sp : Nat → Bool} {held : Bool} {fuel : Nat} {t : TypeId} {k : IntKind} {cs : List Value} {n : Int} {p : List MemPlace}
    (ht : P.underlying t = some (.int k)) (h : DataW.trod enc P w base sp held fuel t cs = some (.lit (.int k n), p)) : cs = [.int k n] := by
  obtain ⟨z, rfl, hz, _⟩ := DataW.trod_int ht h
  cases hz
  rfl
set_option maxRecDepth 100000 in
theorem pair_of_trod {H : Type} {enc : TypeId × Value → H} {w : World} {base : Nat} {sp : Nat → Bool} {held : Bool} {fuel : Nat} {cs : List Value} {a b : Int} {p : List MemPlace}
    (h : DataW.trod enc Tryd.prog w base sp held fuel 200 cs = some (.agg [.lit (.int .i32 a), .lit (.int .i32 b)], p)) : cs = [.int .i32 a, .int .i32 b] := by
  cases fuel with
  | zero => simp [DataW.trod] at h
  | succ fuel =>
    simp only [DataW.trod, Tryd.underlying200] at h
    split at h
    · rename_i hl
      rw [cells200] at hl
      obtain ⟨x, y, rfl⟩ : ∃ x y, cs = [x, y] := by
        match cs, hl with
        | [a, b], _ => exact ⟨a, b, rfl⟩
      simp only [Option.map_eq_some_iff, List.mapM_cons, List.mapM_nil, Option.bind_eq_bind, Option.bind_eq_some_iff, Option.pure_def, Option.some.injEq, cells21, List.drop_zero, List.drop_succ_cons, List.take_succ_cons, List.take_zero] at h
      obtain ⟨xs, ⟨y0, h0, _, ⟨y1, h1, _, rfl, rfl⟩, rfl⟩, hx⟩ := h
      simp only [List.map_cons, List.map_nil, Prod.mk.injEq, DataW.agg.injEq, List.cons.injEq, and_true] at hx
      obtain ⟨⟨e0, e1⟩, _⟩ := hx
      obtain ⟨d0, p0⟩ := y0
      obtain ⟨d1, p1⟩ := y1
      dsimp only at e0 e1
      subst e0 e1
      have g0 := int_of_trod' Tryd.underlying21 h0
      have g1 := int_of_trod' Tryd.underlying21 h1
      simp at g0 g1
      rw [g0, g1]
    · cases h
theorem pairs_flat : ∀ (ps : List (Int × Int)) (cs : List Value), cs.length = 2 * ps.length → (∀ i p, ps[i]? = some p → (cs.drop (i * 2)).take 2 = [.int .i32 p.1, .int .i32 p.2]) → cs = ps.flatMap fun p => [Value.int .i32 p.1, .int .i32 p.2]
  | [], cs, hl, _ => by simpa using hl
  | p :: ps, cs, hl, h => by
    obtain ⟨x, y, cs, rfl⟩ : ∃ x y cs', cs = x :: y :: cs' := by
      match cs, hl with
      | a :: b :: cs, _ => exact ⟨a, b, cs, rfl⟩
      | [], hl => simp at hl
      | [_], hl => simp at hl; omega
    have h0 := h 0 p rfl
    simp at h0
    rw [h0.1, h0.2, pairs_flat ps cs (by simp at hl; omega) (fun i q hq => by
      have := h (i + 1) q (by simpa using hq)
      rwa [Nat.succ_mul, show i * 2 + 2 = (i * 2 + 1) + 1 from rfl, List.drop_succ_cons, List.drop_succ_cons] at this)]
    rfl
def pairsL : List (Int × Int) := [(97, 122), (65, 90), (95, 95), (192, 214), (216, 246), (248, 591), (880, 893), (895, 902), (904, 1023), (1024, 1153), (1162, 1327), (19968, 40959), (66560, 66639)]
theorem letters_of_trod {H : Type} {enc : TypeId × Value → H} {w : World} {base : Nat} {sp : Nat → Bool} {held : Bool} {fuel : Nat} {cs : List Value} {p : List MemPlace}
    (h : DataW.trod enc Tryd.prog w base sp held fuel 201 cs = some (Rows.laid_sorrel_runes_letters, p)) : cs = lettersL.map (Value.int .i32) := by
  cases fuel with
  | zero => simp [DataW.trod] at h
  | succ fuel =>
    simp only [DataW.trod, Tryd.underlying201, cells200, cells201] at h
    split at h
    · rename_i hl
      obtain ⟨xs, hm, hx⟩ := Option.map_eq_some_iff.1 h
      have hxs : xs.map (·.1) = pairsL.map fun p => (DataW.agg [.lit (.int .i32 p.1), .lit (.int .i32 p.2)] : DataW H) := by
        have := congrArg Prod.fst hx
        simpa [Rows.laid_sorrel_runes_letters, pairsL] using this
      obtain ⟨hxl, hi⟩ := mapM_range _ _ _ hm
      refine pairs_flat pairsL cs hl (fun i q hq => ?_)
      have hlt : i < 13 := (List.getElem?_eq_some_iff.1 hq).1
      have h1 := hi i hlt
      have h2 : (xs.map (·.1))[i]? = some (DataW.agg [.lit (.int .i32 q.1), .lit (.int .i32 q.2)] : DataW H) := by rw [hxs, List.getElem?_map, hq]; rfl
      rw [List.getElem?_map, Option.map_eq_some_iff] at h2
      obtain ⟨⟨d, pp⟩, h3, h4⟩ := h2
      dsimp only at h4
      subst h4
      rw [h3] at h1
      exact pair_of_trod h1
    · cases h
theorem heap_of_var {W : World} {name : String} {g : Nat} {cs : Array Value} (hg : Tryd.prog.globalNamed name = some g) (h : W.var? Tryd.prog name = some cs) : ∃ T f, W.heap[g]? = some (.cells cs T f) := by
  simp only [World.var?, hg, Option.bind_some] at h
  split at h
  · rename_i c T f hc
    cases h
    exact ⟨T, f, hc⟩
  · cases h
theorem GL_of_laid {W : World} (h : laidMetH Tryd.prog [("sorrel/runes.letters", Rows.laid_sorrel_runes_letters), ("sorrel/runes.zeros", Rows.laid_sorrel_runes_zeros)] W) : GL W := by
  obtain ⟨ps, ⟨g, t, cs, fuel, p, q, hg, ht, hvar, hd, ⟨g', t', cs', fuel', p', q', hg', ht', hvar', hd', _, _⟩, _⟩, _⟩ := (h : laidMet _ _ _)
  obtain rfl := Option.some.inj (gLetters.symm.trans hg)
  obtain rfl := Option.some.inj (gLettersType.symm.trans ht)
  obtain rfl := Option.some.inj (gZeros.symm.trans hg')
  obtain rfl := Option.some.inj (gZerosType.symm.trans ht')
  have e0 := letters_of_trod hd
  have e1 : cs'.toList = zerosL.map fun z => Value.int .i32 z := Lib.cells_of_tab (zs := zerosL) Tryd.underlying221 Tryd.underlying21 cells21 cells221 hd'
  have f0 : cs = lettersA := by rw [lettersA, ← e0]
  have f1 : cs' = zerosA := by rw [zerosA, ← e1]
  subst f0 f1
  exact ⟨heap_of_var gLetters hvar, heap_of_var gZeros hvar'⟩

theorem own : ownKnob Tryd.prog.godebug = none := by kernel_rfl
theorem laidOut : laidOutB Tryd.prog = true := by kernel_rfl
def asCells (cs : Array Value) : Obj → Obj
  | .cells _ t frozen => .cells cs t frozen
  | o => o
noncomputable def laidWorld (os : Os) : World :=
  { World.holding Tryd.prog os ⟨#[], #[], []⟩ with heap := ((World.holding Tryd.prog os ⟨#[], #[], []⟩).heap.modify 0 (asCells lettersA)).modify 1 (asCells zerosA) }
end Go.Proofs.YtacjjfoelhckcaaDoor
/- The plain law of ExprPlays. -/
/- Plain laws, part 1: operators, sound nodes, rows of numbers, the check of a text of nodes (by the open ones; by walking). -/
namespace Go.Proofs.YtacjjfoelhckcaaDoor.PExprPlays
open Go.RowKit Go.Proofs.YtacjjfoelhckcaaDoorW.PrintWords
set_option linter.unusedVariables false

theorem arity_ev (a : Int) : Ev (fun k => expr_Arity.f k a) (arE a) := by
  refine Ev.step (f := fun k => expr_Arity.f (k + 1) a) (fun _ => rfl) (Ev.last fun k => ?_)
  simp only [expr_Arity.f, expr_Arity.j0, expr_Arity.j1, arE, arityZ]
  repeat' split
  all_goals simp_all
  all_goals omega
theorem sound_ev (op n : Int) (name : ByteArray) (kids : List Int) : Ev (fun k => expr_sound.f k op n name kids) (formB op n name kids.length) := by
  unfold expr_sound.f
  refine Ev.bind (arity_ev op) ?_
  refine Ev.last fun k => ?_
  have := arityZ_bounds op
  simp only [arE, formB, expr_sound.j0, runes_Name.f]
  repeat' split
  all_goals simp_all
  all_goals omega
theorem equal_loop (a b : List Int) (hl : a.length = b.length) (hb : a.length ≤ 9223372036854775806) : ∀ (n i : Nat), a.length - i ≤ n → i ≤ a.length →
    Ev (fun k => slices_Equal_int_int.l0 k a b (a.length : Int) (i : Int)) (decide (a.drop i = b.drop i)) := by
  intro n
  induction n with
  | zero =>
    intro i h1 h2
    refine Ev.last fun k => ?_
    rw [slices_Equal_int_int.l0, if_neg (by omega), List.drop_eq_nil_of_le (by omega), List.drop_eq_nil_of_le (by omega)]
    rfl
  | succ n ih =>
    intro i h1 h2
    by_cases hi : i < a.length
    · rw [List.drop_eq_getElem_cons hi, List.drop_eq_getElem_cons (by omega : i < b.length)]
      have ea : rd a (i : Int) = a[i] := getD_lt a i 0 hi
      have eb : rd b (i : Int) = b[i] := getD_lt b i 0 (by omega)
      by_cases he : a[i] = b[i]
      · refine Ev.step (f := fun k => slices_Equal_int_int.l0 k a b (a.length : Int) ((i + 1 : Nat) : Int)) (fun k => ?_) ?_
        · rw [slices_Equal_int_int.l0, if_pos (by omega), if_pos (by omega), if_pos (by omega), if_pos (by omega), ea, eb, if_pos he, w64 _ (by omega)]; rfl
        · have := ih (i + 1) (by omega) (by omega)
          simpa only [List.cons.injEq, he, true_and] using this
      · refine Ev.last fun k => ?_
        rw [slices_Equal_int_int.l0, if_pos (by omega), if_pos (by omega), if_pos (by omega), if_pos (by omega), ea, eb, if_neg he]
        simp only [List.cons.injEq, he, false_and, decide_false]
    · refine Ev.last fun k => ?_
      rw [slices_Equal_int_int.l0, if_neg (by omega), List.drop_eq_nil_of_le (by omega), List.drop_eq_nil_of_le (by omega)]
      rfl
theorem equal_ev (a b : List Int) (hb : a.length ≤ 9223372036854775806) : Ev (fun k => slices_Equal_int_int.f k a b) (decide (a = b)) := by
  unfold slices_Equal_int_int.f
  by_cases hl : a.length = b.length
  · refine Ev.congr (fun k => if_pos (by omega)) ?_
    have := equal_loop a b hl hb _ 0 (Nat.le_refl _) (by omega)
    simpa using this
  · refine Ev.congr (fun k => if_neg (by omega)) ?_
    have : a ≠ b := fun h => hl (by rw [h])
    simp only [this, decide_false]
    exact Ev.now _

/-! ### the check by the open ones -/
def formN (x : S45) : Bool := formB x.f0 x.f1 x.f2 x.f3.length
def fitsN (st : List Int) (x : S45) : Bool := formN x && decide (x.f3.length ≤ st.length) && decide (st.drop (st.length - x.f3.length) = x.f3)
def checkFrom (st : List Int) (i : Nat) : List S45 → Int
  | [] => if st.length = 1 then 0 else 1
  | x :: r => if fitsN st x = true then checkFrom (st.take (st.length - x.f3.length) ++ [(i : Int)]) (i + 1) r else 1
def checkE (l : List S45) : Int := if l.length < 1 ∨ 64 < l.length then 1 else checkFrom [] 0 l
theorem check_loop (l : List S45) (hl : l.length ≤ 64) (hk : ∀ x ∈ l, okN (x.f0, x.f1, x.f2, x.f3)) : ∀ (n i : Nat) (st : List Int), l.length - i ≤ n → i ≤ l.length → st.length ≤ i →
    Ev (fun k => expr_Check.l0 k st l (l.length : Int) (i : Int)) (checkFrom st i (l.drop i)) := by
  intro n
  induction n with
  | zero =>
    intro i st h1 h2 h3
    refine Ev.last fun k => ?_
    rw [expr_Check.l0, if_neg (by omega), List.drop_eq_nil_of_le (by omega), checkFrom]
    split <;> split <;> first | rfl | omega
  | succ n ih =>
    intro i st h1 h2 h3
    by_cases hi : i < l.length
    · rw [List.drop_eq_getElem_cons hi, checkFrom]
      have ea : rd_T45 l (i : Int) = l[i] := getD_lt l i _ hi
      have hx := hk _ (List.getElem_mem hi)
      have hkid : (l[i]).f3.length ≤ 17592186043904 := by have := hx.2.2.2.1; dsimp only at this; omega
      generalize hxx : l[i] = x at *
      refine Ev.step (f := fun k => (expr_sound.f k x.f0 x.f1 x.f2 x.f3).bind fun t109 => (if t109 = true then (expr_Check.j2 k st i l (l.length : Int) i (decide ((x.f3.length : Int) > (st.length : Int))) x.f0 x.f1 x.f2 x.f3) else (expr_Check.j2 k st i l (l.length : Int) i true x.f0 x.f1 x.f2 x.f3))) (fun k => ?_) ?_
      · rw [expr_Check.l0, if_pos (by omega), if_pos (by omega), if_pos (by omega), ea]
      refine Ev.bind (sound_ev x.f0 x.f1 x.f2 x.f3) ?_
      by_cases hf : formB x.f0 x.f1 x.f2 x.f3.length = true
      · refine Ev.congr (fun k => if_pos hf) ?_
        by_cases hc : x.f3.length ≤ st.length
        · have e1 : wrap64 ((st.length : Int) - (x.f3.length : Int)) = ((st.length - x.f3.length : Nat) : Int) := by rw [w64 _ (by omega)]; omega
          have e2 : (decide ((x.f3.length : Int) > (st.length : Int))) = false := by simp; omega
          by_cases hd : st.drop (st.length - x.f3.length) = x.f3
          · have e3 : fitsN st x = true := by simp [fitsN, formN, hf, hc, hd]
            rw [if_pos e3]
            refine Ev.step (f := fun k => (slices_Equal_int_int.f k (st.drop (st.length - x.f3.length)) x.f3).bind fun t114 => (if t114 = true then ((some (st.take (st.length - x.f3.length) : List Int)).bind fun y115 => (if y115.length < 17592186044416 then (expr_Check.l0 k (y115 ++ [(i : Int)]) l (l.length : Int) (wrap64 ((i : Int) + 1))) else (none))) else (some 1))) (fun k => ?_) ?_
            · rw [expr_Check.j2, e2, if_neg (by simp), e1, if_pos (by omega), if_pos (by omega)]
              rfl
            refine Ev.bind (equal_ev _ _ (by rw [List.length_drop]; omega)) ?_
            have e4 : decide (st.drop (st.length - x.f3.length) = x.f3) = true := by simpa using hd
            refine Ev.congr (fun k => if_pos e4) ?_
            refine Ev.congr (f := fun k => expr_Check.l0 k (st.take (st.length - x.f3.length) ++ [(i : Int)]) l (l.length : Int) ((i + 1 : Nat) : Int)) (fun k => ?_) ?_
            · rw [Option.bind_some, if_pos (by rw [List.length_take]; omega), w64 _ (by omega)]; rfl
            · exact ih (i + 1) _ (by omega) (by omega) (by rw [List.length_append, List.length_take]; simp; omega)
          · have e3 : ¬ fitsN st x = true := by simp [fitsN, hd]
            rw [if_neg e3]
            refine Ev.step (f := fun k => (slices_Equal_int_int.f k (st.drop (st.length - x.f3.length)) x.f3).bind fun t114 => (if t114 = true then ((some (st.take (st.length - x.f3.length) : List Int)).bind fun y115 => (if y115.length < 17592186044416 then (expr_Check.l0 k (y115 ++ [(i : Int)]) l (l.length : Int) (wrap64 ((i : Int) + 1))) else (none))) else (some 1))) (fun k => ?_) ?_
            · rw [expr_Check.j2, e2, if_neg (by simp), e1, if_pos (by omega), if_pos (by omega)]
              rfl
            refine Ev.bind (equal_ev _ _ (by rw [List.length_drop]; omega)) ?_
            have e4 : ¬ decide (st.drop (st.length - x.f3.length) = x.f3) = true := by simpa using hd
            exact Ev.congr (fun k => if_neg e4) (Ev.now _)
        · have e3 : ¬ fitsN st x = true := by simp [fitsN, hc]
          rw [if_neg e3]
          refine Ev.last fun k => ?_
          rw [expr_Check.j2, if_pos (by simp; omega)]
      · have e3 : ¬ fitsN st x = true := by simp [fitsN, formN, hf]
        rw [if_neg e3]
        refine Ev.congr (fun k => if_neg hf) ?_
        refine Ev.last fun k => ?_
        rw [expr_Check.j2, if_pos rfl]
    · refine Ev.last fun k => ?_
      rw [expr_Check.l0, if_neg (by omega), List.drop_eq_nil_of_le (by omega), checkFrom]
      split <;> split <;> first | rfl | omega
theorem check_ev (l : List S45) (hk : ∀ x ∈ l, okN (x.f0, x.f1, x.f2, x.f3)) : Ev (fun k => expr_Check.f k l) (checkE l) := by
  unfold expr_Check.f checkE
  by_cases h1 : l.length < 1
  · rw [if_pos (Or.inl h1)]
    refine Ev.congr (fun k => if_pos (by omega)) (Ev.last fun k => ?_)
    rw [expr_Check.j0, if_pos rfl]
  · refine Ev.congr (fun k => if_neg (by omega)) ?_
    by_cases h2 : 64 < l.length
    · rw [if_pos (Or.inr h2)]
      refine Ev.last fun k => ?_
      rw [expr_Check.j0, if_pos (by simp; omega)]
    · rw [if_neg (by omega)]
      refine Ev.step (f := fun k => expr_Check.l0 k [] l (l.length : Int) ((0 : Nat) : Int)) (fun k => ?_) ?_
      · rw [expr_Check.j0, if_neg (by simp; omega)]; rfl
      · exact check_loop l (by omega) hk _ 0 [] (Nat.le_refl _) (by omega) (by simp)
end Go.Proofs.YtacjjfoelhckcaaDoor.PExprPlays

/- Plain laws, part 2: the check of a text of nodes by walking; it answers as the check by the open ones. -/
namespace Go.Proofs.YtacjjfoelhckcaaDoor.PExprPlays
open Go.RowKit Go.Proofs.YtacjjfoelhckcaaDoorW.PrintWords
set_option linter.unusedVariables false

def Wk (l : List S45) (r v : Int) : Prop := Ev (fun k => sorrelref02_walk.f k l r) v
def Good (l : List S45) (i : Int) : Prop := ∃ u, Wk l i u ∧ u ≠ -2
theorem wk_neg (l : List S45) (r : Int) (h : r < 0) : Wk l r (-2) := by
  refine Ev.last fun k => ?_
  rw [sorrelref02_walk.f, if_pos h]
theorem kid_ne (l : List S45) (kids : List Int) (hk : kids.length ≤ 17592186043904) (m : Nat) (hm : m < kids.length) (at' : Int) (hne : kids[m] ≠ at') : Ev (fun k => sorrelref02_walk.l0 k l at' kids (m : Int)) (-2) := by
  have ea : rd kids (m : Int) = kids[m] := getD_lt kids m 0 hm
  refine Ev.last fun k => ?_
  rw [sorrelref02_walk.l0, if_pos (by omega), if_pos (by omega), if_pos (by omega), ea, if_neg hne]
theorem kid_bad (l : List S45) (kids : List Int) (hk : kids.length ≤ 17592186043904) (m : Nat) (hm : m < kids.length) (hw : Wk l kids[m] (-2)) : Ev (fun k => sorrelref02_walk.l0 k l kids[m] kids (m : Int)) (-2) := by
  have ea : rd kids (m : Int) = kids[m] := getD_lt kids m 0 hm
  refine Ev.step (f := fun k => (sorrelref02_walk.f k l kids[m]).bind fun t172 => (if t172 = (-2) then (some (-2)) else (sorrelref02_walk.l0 k l t172 kids (wrap64 ((m : Int) - 1))))) (fun k => ?_) (Ev.bind hw ?_)
  · rw [sorrelref02_walk.l0, if_pos (by omega), if_pos (by omega), if_pos (by omega), ea, if_pos rfl]
  · exact Ev.congr (fun k => if_pos rfl) (Ev.now _)
theorem kid_on (l : List S45) (kids : List Int) (hk : kids.length ≤ 17592186043904) (m : Nat) (hm : m < kids.length) {u v : Int} (hw : Wk l kids[m] u) (hu : u ≠ -2) (hv : Ev (fun k => sorrelref02_walk.l0 k l u kids ((m : Int) - 1)) v) :
    Ev (fun k => sorrelref02_walk.l0 k l kids[m] kids (m : Int)) v := by
  have ea : rd kids (m : Int) = kids[m] := getD_lt kids m 0 hm
  refine Ev.step (f := fun k => (sorrelref02_walk.f k l kids[m]).bind fun t172 => (if t172 = (-2) then (some (-2)) else (sorrelref02_walk.l0 k l t172 kids (wrap64 ((m : Int) - 1))))) (fun k => ?_) (Ev.bind hw ?_)
  · rw [sorrelref02_walk.l0, if_pos (by omega), if_pos (by omega), if_pos (by omega), ea, if_pos rfl]
  · refine Ev.congr (fun k => if_neg hu) ?_
    rw [w64 _ (by omega)]
    exact hv
theorem kid_end (l : List S45) (kids : List Int) (at' j : Int) (h : j < 0) : Ev (fun k => sorrelref02_walk.l0 k l at' kids j) at' := by
  refine Ev.last fun k => ?_
  rw [sorrelref02_walk.l0, if_neg (by omega)]
theorem wk_node (l : List S45) (hl : l.length ≤ 64) (r : Nat) (hr : r < l.length) (hk : (l[r]).f3.length ≤ 17592186043904) {v : Int} (h : Ev (fun k => sorrelref02_walk.l0 k l ((r : Int) - 1) (l[r]).f3 (((l[r]).f3.length : Int) - 1)) v) : Wk l r v := by
  have ea : rd_T45 l (r : Int) = l[r] := getD_lt l r _ hr
  refine Ev.step (f := fun k => sorrelref02_walk.l0 k l ((r : Int) - 1) (l[r]).f3 (((l[r]).f3.length : Int) - 1)) (fun k => ?_) h
  rw [sorrelref02_walk.f, if_neg (by omega), if_pos (by omega), if_pos (by omega), ea, w64 ((r : Int) - 1) (by omega), w64 (((l[r]).f3.length : Int) - 1) (by omega)]

theorem walk_ends (l : List S45) (hl : l.length ≤ 64) (hk : ∀ x ∈ l, okN (x.f0, x.f1, x.f2, x.f3)) : ∀ (n : Nat) (r : Int), r < n → r < l.length → ∃ v, Wk l r v ∧ (v = -2 ∨ (-1 ≤ v ∧ v < r ∧ ∀ i, v < i → i ≤ r → Good l i)) := by
  intro n
  induction n with
  | zero => intro r h _; exact ⟨-2, wk_neg l r (by omega), .inl rfl⟩
  | succ n ih =>
    intro r h hrl
    by_cases h0 : r < 0
    · exact ⟨-2, wk_neg l r h0, .inl rfl⟩
    obtain ⟨r, rfl⟩ : ∃ q : Nat, r = q := ⟨r.toNat, by omega⟩
    have hlt : r < l.length := by omega
    have hkid : (l[r]).f3.length ≤ 17592186043904 := by have := (hk _ (List.getElem_mem hlt)).2.2.2.1; dsimp only at this; omega
    have inner : ∀ (m : Nat) (at' : Int), m ≤ (l[r]).f3.length → -1 ≤ at' → at' ≤ r - 1 → (∀ i, at' < i → i ≤ r - 1 → Good l i) →
        ∃ v, Ev (fun k => sorrelref02_walk.l0 k l at' (l[r]).f3 ((m : Int) - 1)) v ∧ (v = -2 ∨ (-1 ≤ v ∧ v ≤ at' ∧ ∀ i, v < i → i ≤ r - 1 → Good l i)) := by
      intro m
      induction m with
      | zero => intro at' _ h1 h2 h3; exact ⟨at', kid_end l _ at' _ (by omega), .inr ⟨h1, Int.le_refl _, h3⟩⟩
      | succ m ihm =>
        intro at' hm h1 h2 h3
        have em : ((m + 1 : Nat) : Int) - 1 = (m : Int) := by omega
        rw [em]
        by_cases he : (l[r]).f3[m] = at'
        · obtain ⟨u, hu, hu2⟩ := ih at' (by omega) (by omega)
          subst he
          rcases hu2 with rfl | ⟨g1, g2, g3⟩
          · exact ⟨-2, kid_bad l _ hkid m (by omega) hu, .inl rfl⟩
          · have hne : u ≠ -2 := by omega
            obtain ⟨v, hv, hv2⟩ := ihm u (by omega) g1 (by omega) (fun i hi1 hi2 => by
              by_cases hc : i ≤ (l[r]).f3[m]
              · exact g3 i hi1 hc
              · exact h3 i (by omega) hi2)
            refine ⟨v, kid_on l _ hkid m (by omega) hu hne hv, ?_⟩
            rcases hv2 with rfl | ⟨k1, k2, k3⟩
            · exact .inl rfl
            · exact .inr ⟨k1, by omega, k3⟩
        · exact ⟨-2, kid_ne l _ hkid m (by omega) at' he, .inl rfl⟩
    obtain ⟨v, hv, hv2⟩ := inner _ ((r : Int) - 1) (Nat.le_refl _) (by omega) (Int.le_refl _) (fun i h1 h2 => by omega)
    have hw := wk_node l hl r hlt hkid hv
    refine ⟨v, hw, ?_⟩
    rcases hv2 with rfl | ⟨g1, g2, g3⟩
    · exact .inl rfl
    · refine .inr ⟨g1, by omega, fun i h1 h2 => ?_⟩
      by_cases hc : i = r
      · subst hc; exact ⟨v, hw, by omega⟩
      · exact g3 i h1 (by omega)

def Ch (l : List S45) : List Int → Int → Prop
  | [], a => a = -1
  | t :: ts, a => t = a ∧ 0 ≤ t ∧ ∃ u, Wk l t u ∧ u ≠ -2 ∧ Ch l ts u
theorem ch_ne {l : List S45} {rs : List Int} {a : Int} (h : Ch l rs a) : a ≠ -2 := by
  cases rs with
  | nil => have : a = -1 := h; omega
  | cons t ts => have := h.1; have := h.2.1; omega
theorem kids_walk (l : List S45) (kids : List Int) (hk : kids.length ≤ 17592186043904) : ∀ (m : Nat) (rs : List Int) (a : Int), m ≤ kids.length → Ch l rs a →
    (rs.take m = (kids.take m).reverse ∧ ∃ u, Ev (fun k => sorrelref02_walk.l0 k l a kids ((m : Int) - 1)) u ∧ Ch l (rs.drop m) u) ∨
    (rs.take m ≠ (kids.take m).reverse ∧ Ev (fun k => sorrelref02_walk.l0 k l a kids ((m : Int) - 1)) (-2)) := by
  intro m
  induction m with
  | zero => intro rs a _ h; exact .inl ⟨rfl, a, kid_end l _ a _ (by omega), h⟩
  | succ m ih =>
    intro rs a hm h
    have em : ((m + 1 : Nat) : Int) - 1 = (m : Int) := by omega
    have et : (kids.take (m + 1)).reverse = kids[m] :: (kids.take m).reverse := by rw [List.take_succ_eq_append_getElem (by omega), List.reverse_append]; rfl
    rw [em, et]
    by_cases he : kids[m] = a
    · cases rs with
      | nil =>
        have ha : a = -1 := h
        refine .inr ⟨by simp, ?_⟩
        subst he
        exact kid_bad l kids hk m (by omega) (wk_neg l _ (by omega))
      | cons t ts =>
        obtain ⟨h1, h2, u, hu, hne, hc⟩ := h
        subst h1
        rcases ih ts u (by omega) hc with ⟨e, v, hv, hcv⟩ | ⟨e, hv⟩
        · refine .inl ⟨by simp [e, he], v, ?_, hcv⟩
          rw [← he] at hu ⊢
          exact kid_on l kids hk m (by omega) hu hne hv
        · refine .inr ⟨by simp [e], ?_⟩
          rw [← he] at hu ⊢
          exact kid_on l kids hk m (by omega) hu hne hv
    · refine .inr ⟨?_, kid_ne l kids hk m (by omega) a he⟩
      cases rs with
      | nil => simp
      | cons t ts =>
        have : t = a := h.1
        simp
        intro h'
        omega
theorem check_walk (l : List S45) (h1l : 1 ≤ l.length) (hl : l.length ≤ 64) (hk : ∀ x ∈ l, okN (x.f0, x.f1, x.f2, x.f3)) (hf : ∀ x ∈ l, formN x = true) (v : Int) (hv : Wk l ((l.length : Int) - 1) v)
    (hg : v = -1 → ∀ i : Int, -1 < i → i ≤ (l.length : Int) - 1 → Good l i) : ∀ (n i : Nat) (st : List Int), l.length - i ≤ n → i ≤ l.length → Ch l st.reverse ((i : Int) - 1) → checkFrom st i (l.drop i) = if v = -1 then 0 else 1 := by
  have done : ∀ (st : List Int), Ch l st.reverse ((l.length : Int) - 1) → (if st.length = 1 then (0 : Int) else 1) = if v = -1 then 0 else 1 := by
    intro st hc
    have e : st.length = st.reverse.length := by simp
    rw [e]
    clear e
    generalize st.reverse = rs at hc
    cases rs with
    | nil => have : (l.length : Int) - 1 = -1 := hc; omega
    | cons t ts =>
      obtain ⟨e1, e2, u, hu, hne, hc⟩ := hc
      subst e1
      have := Ev.one hu hv
      subst this
      cases ts with
      | nil => have : u = -1 := hc; simp [this]
      | cons t2 ts => have e3 := hc.1; have e4 := hc.2.1; rw [if_neg (by simp), if_neg (by omega)]
  intro n
  induction n with
  | zero =>
    intro i st h1 h2 hc
    have e : i = l.length := by omega
    subst e
    rw [List.drop_eq_nil_of_le (by omega), checkFrom]
    exact done st hc
  | succ n ih =>
    intro i st h1 h2 hc
    by_cases hi : i < l.length
    · rw [List.drop_eq_getElem_cons hi, checkFrom]
      have hkid : (l[i]).f3.length ≤ 17592186043904 := by have := (hk _ (List.getElem_mem hi)).2.2.2.1; dsimp only at this; omega
      have hform := hf _ (List.getElem_mem hi)
      have key := kids_walk l (l[i]).f3 hkid (l[i]).f3.length st.reverse ((i : Int) - 1) (Nat.le_refl _) hc
      rw [List.take_length] at key
      have hfit : fitsN st l[i] = true ↔ st.reverse.take (l[i]).f3.length = (l[i]).f3.reverse := by
        rw [fitsN, hform]
        simp only [Bool.true_and, Bool.and_eq_true, decide_eq_true_eq]
        rw [List.take_reverse]
        constructor
        · rintro ⟨_, e⟩; rw [e]
        · intro e
          have e' := List.reverse_inj.1 e
          refine ⟨?_, e'⟩
          have := congrArg List.length e'
          rw [List.length_drop] at this
          omega
      rcases key with ⟨e, u, hu, hcu⟩ | ⟨e, hu⟩
      · rw [if_pos (hfit.2 e)]
        refine ih (i + 1) _ (by omega) (by omega) ?_
        rw [List.reverse_append]
        refine ⟨by simp, by simp, u, wk_node l hl i hi hkid hu, ch_ne hcu, ?_⟩
        rw [List.drop_reverse] at hcu
        exact hcu
      · rw [if_neg (fun h => e (hfit.1 h))]
        have hw := wk_node l hl i hi hkid hu
        rw [if_neg]
        intro hv1
        obtain ⟨u, hu1, hu2⟩ := hg hv1 i (by omega) (by omega)
        exact hu2 (Ev.one hu1 hw)
    · have e : i = l.length := by omega
      subst e
      rw [List.drop_eq_nil_of_le (by omega), checkFrom]
      exact done st hc
theorem check_bad : ∀ (r : List S45) (st : List Int) (i : Nat), (∃ x ∈ r, ¬ formN x = true) → checkFrom st i r = 1 := by
  intro r
  induction r with
  | nil => rintro st i ⟨x, hx, _⟩; cases hx
  | cons x r ih =>
    rintro st i ⟨y, hy, hn⟩
    rw [checkFrom]
    split
    · rename_i hfit
      refine ih _ _ ⟨y, ?_, hn⟩
      rcases List.mem_cons.1 hy with rfl | hy
      · exact absurd (by simp [fitsN] at hfit; exact hfit.1.1) hn
      · exact hy
    · rfl
theorem refCheck_loop (l : List S45) (h1l : 1 ≤ l.length) (hl : l.length ≤ 64) (hk : ∀ x ∈ l, okN (x.f0, x.f1, x.f2, x.f3)) : ∀ (n i : Nat), l.length - i ≤ n → i ≤ l.length → (∀ x ∈ l.take i, formN x = true) →
    Ev (fun k => sorrelref02_Check.l0 k l (i : Int)) (checkFrom [] 0 l) := by
  have fin : ∀ i, i ≤ l.length → l.length ≤ i → (∀ x ∈ l.take i, formN x = true) → Ev (fun k => sorrelref02_Check.l0 k l (i : Int)) (checkFrom [] 0 l) := by
    intro i h2 h3 hf
    have e : i = l.length := by omega
    subst e
    rw [List.take_length] at hf
    obtain ⟨v, hv, hv2⟩ := walk_ends l hl hk l.length ((l.length : Int) - 1) (by omega) (by omega)
    have h := check_walk l h1l hl hk hf v hv (fun e i a b => by
      rcases hv2 with rfl | ⟨_, _, g⟩
      · omega
      · exact g i (by omega) b) l.length 0 [] (by omega) (by omega) (by show ((0 : Nat) : Int) - 1 = -1; omega)
    rw [List.drop_zero] at h
    rw [h]
    refine Ev.step (f := fun k => (sorrelref02_walk.f k l ((l.length : Int) - 1)).bind fun t175 => (if t175 = (-1) then (some 0) else (some 1))) (fun k => ?_) (Ev.bind hv ?_)
    · rw [sorrelref02_Check.l0, if_neg (by omega), w64 _ (by omega)]
    · refine Ev.pure fun k => ?_
      split <;> rfl
  intro n
  induction n with
  | zero => intro i h1 h2 hf; exact fin i h2 (by omega) hf
  | succ n ih =>
    intro i h1 h2 hf
    by_cases hi : i < l.length
    · have ea : rd_T45 l (i : Int) = l[i] := getD_lt l i _ hi
      have hx := hk _ (List.getElem_mem hi)
      have ef := form_eq (l[i]).f0 (l[i]).f1 (l[i]).f2 (l[i]).f3 hx.2.2.1
      by_cases hform : formN l[i] = true
      · refine Ev.step (f := fun k => sorrelref02_Check.l0 k l ((i + 1 : Nat) : Int)) (fun k => ?_) (ih (i + 1) (by omega) (by omega) ?_)
        · have hform' : formB (l[i]).f0 (l[i]).f1 (l[i]).f2 (l[i]).f3.length = true := hform
          rw [sorrelref02_Check.l0, if_pos (by omega), if_pos (by omega), ea, ef, Option.bind_some, if_pos hform', w64 _ (by omega)]; rfl
        · intro x hx
          rw [List.take_succ_eq_append_getElem hi, List.mem_append] at hx
          rcases hx with hx | hx
          · exact hf x hx
          · obtain rfl : x = l[i] := by simpa using hx
            exact hform
      · rw [check_bad l [] 0 ⟨_, List.getElem_mem hi, hform⟩]
        have hform' : ¬ formB (l[i]).f0 (l[i]).f1 (l[i]).f2 (l[i]).f3.length = true := hform
        refine Ev.last fun k => ?_
        rw [sorrelref02_Check.l0, if_pos (by omega), if_pos (by omega), ea, ef, Option.bind_some, if_neg hform']
    · exact fin i h2 (by omega) hf
theorem refCheck_ev (l : List S45) (hk : ∀ x ∈ l, okN (x.f0, x.f1, x.f2, x.f3)) (hb : l.length ≤ 2513169434843) : Ev (fun k => sorrelref02_Check.f k l) (checkE l) := by
  unfold sorrelref02_Check.f checkE
  by_cases h1 : l.length < 1
  · rw [if_pos (Or.inl h1)]
    refine Ev.congr (fun k => if_pos (by omega)) (Ev.last fun k => ?_)
    rw [sorrelref02_Check.j0, if_pos rfl]
  · refine Ev.congr (fun k => if_neg (by omega)) ?_
    by_cases h2 : 64 < l.length
    · rw [if_pos (Or.inr h2)]
      refine Ev.last fun k => ?_
      rw [sorrelref02_Check.j0, if_pos (by simp; omega)]
    · rw [if_neg (by omega)]
      refine Ev.step (f := fun k => sorrelref02_Check.l0 k l ((0 : Nat) : Int)) (fun k => ?_) ?_
      · rw [sorrelref02_Check.j0, if_neg (by simp; omega)]; rfl
      · exact refCheck_loop l (by omega) (by omega) hk _ 0 (Nat.le_refl _) (by omega) (by simp)
end Go.Proofs.YtacjjfoelhckcaaDoor.PExprPlays

/- Plain laws, part 3: copies. -/
namespace Go.Proofs.YtacjjfoelhckcaaDoor.PExprPlays
open Go.RowKit Go.Proofs.YtacjjfoelhckcaaDoorW.PrintWords
set_option linter.unusedVariables false

abbrev okE (x : S45) : Prop := okN (x.f0, x.f1, x.f2, x.f3)
theorem okE.kids {x : S45} (h : okE x) : x.f3.length ≤ 17592186043904 := by
  have := h.2.2.2.1
  dsimp only at this
  omega
/-! ### copies -/
theorem copy_ev (l : List S45) (hb : l.length ≤ 2513169434843) (hk : ∀ x ∈ l, okE x) : Ev (fun k => sorrelref02_Copy.f k l) l := by
  have loop : ∀ (n i : Nat), l.length - i ≤ n → i ≤ l.length → Ev (fun k => sorrelref02_Copy.l0 k l (l.take i) (i : Int)) l := by
    have fin : ∀ i : Nat, i ≤ l.length → l.length ≤ i → Ev (fun k => sorrelref02_Copy.l0 k l (l.take i) (i : Int)) l := by
      intro i h1 h2
      refine Ev.last fun k => ?_
      rw [sorrelref02_Copy.l0, if_neg (by omega), List.take_of_length_le (by omega)]
    intro n
    induction n with
    | zero => intro i h1 h2; exact fin i h2 (by omega)
    | succ n ih =>
      intro i h1 h2
      by_cases hi : i < l.length
      · have ea : rd_T45 l (i : Int) = l[i] := getD_lt l i _ hi
        have hx := (hk _ (List.getElem_mem hi)).kids
        refine Ev.step (f := fun k => sorrelref02_Copy.l0 k l (l.take (i + 1)) ((i + 1 : Nat) : Int)) (fun k => ?_) (ih (i + 1) (by omega) (by omega))
        rw [sorrelref02_Copy.l0, if_pos (by omega), if_pos (by omega), Option.bind_some, ea, if_pos (by simp; omega), if_pos (by rw [List.length_take]; omega), w64 _ (by omega), List.take_succ_eq_append_getElem hi]; rfl
      · exact fin i h2 (by omega)
  unfold sorrelref02_Copy.f
  have := loop _ 0 (Nat.le_refl _) (by omega)
  rw [List.take_zero] at this
  exact this
end Go.Proofs.YtacjjfoelhckcaaDoor.PExprPlays

/- Plain laws: texts behind one another, at any offset; copies of rows of numbers. -/
namespace Go.Proofs.YtacjjfoelhckcaaDoor.PExprPlays
open Go.RowKit Go.Proofs.YtacjjfoelhckcaaDoorW.PrintWords
set_option linter.unusedVariables false

/-! ### texts behind one another -/
def shiftZ (b : Int) (x : S45) : S45 := ⟨x.f0, x.f1, x.f2, x.f3.map fun k => wrap64 (k + b)⟩
theorem set_step (kids : List Int) (g : Int → Int) (i : Nat) (hi : i < kids.length) : ((kids.take i).map g ++ List.replicate (kids.length - i) 0).set i (g kids[i]) = (kids.take (i + 1)).map g ++ List.replicate (kids.length - (i + 1)) 0 := by
  have e : kids.length - i = (kids.length - (i + 1)) + 1 := by omega
  rw [List.set_append_right _ _ (by simp; omega), e, List.replicate_succ]
  have e2 : i - ((kids.take i).map g).length = 0 := by simp; omega
  rw [e2, List.set_cons_zero, List.take_succ_eq_append_getElem hi, List.map_append, List.append_assoc]
  rfl
theorem joinZ_ev (x0 l : List S45) (b : Int) (h0 : x0.length + l.length ≤ 2513169434843) (hk : ∀ x ∈ l, okE x) : Ev (fun k => expr_join.f k x0 l b) (x0 ++ l.map (shiftZ b)) := by
  have inner : ∀ (xs : List S45) (j : Nat) (x : S45) (hx : x.f3.length ≤ 17592186043904) (v : List S45) (hxs : xs.length < 2513169434916),
      Ev (fun k => expr_join.l0 k (xs ++ [shiftZ b x]) b l (l.length : Int) (wrap64 ((j : Int) + 1))) v → ∀ (n i : Nat), x.f3.length - i ≤ n → i ≤ x.f3.length →
      Ev (fun k => expr_join.l1 k xs b ((x.f3.take i).map (fun k => wrap64 (k + b)) ++ List.replicate (x.f3.length - i) 0) l (l.length : Int) j x.f3 (x.f3.length : Int) (i : Int) x.f0 x.f1 x.f2 x.f3) v := by
    intro xs j x hx v hxs hv
    have fin : ∀ i : Nat, i ≤ x.f3.length → x.f3.length ≤ i → Ev (fun k => expr_join.l1 k xs b ((x.f3.take i).map (fun k => wrap64 (k + b)) ++ List.replicate (x.f3.length - i) 0) l (l.length : Int) j x.f3 (x.f3.length : Int) (i : Int) x.f0 x.f1 x.f2 x.f3) v := by
      intro i h1 h2
      refine Ev.step (fun k => ?_) hv
      rw [expr_join.l1, if_neg (by omega), if_pos hxs, List.take_of_length_le (by omega), show x.f3.length - i = 0 by omega]
      simp [shiftZ]
    intro n
    induction n with
    | zero => intro i h1 h2; exact fin i h2 (by omega)
    | succ n ih =>
      intro i h1 h2
      by_cases hi : i < x.f3.length
      · have ea : rd x.f3 (i : Int) = x.f3[i] := getD_lt x.f3 i 0 hi
        refine Ev.step (fun k => ?_) (ih (i + 1) (by omega) (by omega))
        rw [expr_join.l1, if_pos (by omega), if_pos (by omega), if_pos (by omega), if_pos (by simp; omega), ea, w64 ((i : Int) + 1) (by omega), Int.toNat_natCast, set_step x.f3 (fun k => wrap64 (k + b)) i hi]; rfl
      · exact fin i h2 (by omega)
  have loop : ∀ (n i : Nat), l.length - i ≤ n → i ≤ l.length → Ev (fun k => expr_join.l0 k (x0 ++ (l.take i).map (shiftZ b)) b l (l.length : Int) (i : Int)) (x0 ++ l.map (shiftZ b)) := by
    have fin : ∀ i : Nat, i ≤ l.length → l.length ≤ i → Ev (fun k => expr_join.l0 k (x0 ++ (l.take i).map (shiftZ b)) b l (l.length : Int) (i : Int)) (x0 ++ l.map (shiftZ b)) := by
      intro i h1 h2
      refine Ev.last fun k => ?_
      rw [expr_join.l0, if_neg (by omega), List.take_of_length_le (by omega)]
    intro n
    induction n with
    | zero => intro i h1 h2; exact fin i h2 (by omega)
    | succ n ih =>
      intro i h1 h2
      by_cases hi : i < l.length
      · have ea : rd_T45 l (i : Int) = l[i] := getD_lt l i _ hi
        have hx := (hk _ (List.getElem_mem hi)).kids
        have go := ih (i + 1) (by omega) (by omega)
        rw [List.take_succ_eq_append_getElem hi, List.map_append, ← List.append_assoc] at go
        have := inner (x0 ++ (l.take i).map (shiftZ b)) i l[i] hx (x0 ++ l.map (shiftZ b)) (by simp; omega) (by rw [w64 _ (by omega)]; exact go) (l[i]).f3.length 0 (by omega) (by omega)
        refine Ev.step (fun k => ?_) this
        rw [expr_join.l0, if_pos (by omega), if_pos (by omega), if_pos (by omega), if_pos (by omega), ea, if_pos (by omega)]
        simp
      · exact fin i h2 (by omega)
  unfold expr_join.f
  have := loop _ 0 (Nat.le_refl _) (by omega)
  rw [List.take_zero, List.map_nil, List.append_nil] at this
  exact this
end Go.Proofs.YtacjjfoelhckcaaDoor.PExprPlays

/- Plain laws: which texts of nodes are the same. -/
namespace Go.Proofs.YtacjjfoelhckcaaDoor.PExprPlays
open Go.RowKit Go.Proofs.YtacjjfoelhckcaaDoorW.PrintWords
set_option linter.unusedVariables false

theorem sameInts_dec (a b : List Int) (hb : a.length ≤ 9223372036854775806) : Ev (fun k => sorrelref02_SameInts.f k a b) (decide (a = b)) := by
  have loop (hl : a.length = b.length) : ∀ (n i : Nat), a.length - i ≤ n → i ≤ a.length → Ev (fun k => sorrelref02_SameInts.l0 k a b (i : Int)) (decide (a.drop i = b.drop i)) := by
    have fin : ∀ i : Nat, a.length ≤ i → Ev (fun k => sorrelref02_SameInts.l0 k a b (i : Int)) (decide (a.drop i = b.drop i)) := by
      intro i h
      refine Ev.last fun k => ?_
      rw [sorrelref02_SameInts.l0, if_neg (by omega), List.drop_eq_nil_of_le (by omega), List.drop_eq_nil_of_le (by omega)]
      rfl
    intro n
    induction n with
    | zero => intro i h1 h2; exact fin i (by omega)
    | succ n ih =>
      intro i h1 h2
      by_cases hi : i < a.length
      · rw [List.drop_eq_getElem_cons hi, List.drop_eq_getElem_cons (by omega : i < b.length)]
        have ea : rd a (i : Int) = a[i] := getD_lt a i 0 hi
        have eb : rd b (i : Int) = b[i] := getD_lt b i 0 (by omega)
        by_cases he : a[i] = b[i]
        · refine Ev.step (f := fun k => sorrelref02_SameInts.l0 k a b ((i + 1 : Nat) : Int)) (fun k => ?_) ?_
          · rw [sorrelref02_SameInts.l0, if_pos (by omega), if_pos (by omega), if_pos (by omega), ea, eb, if_pos he, w64 _ (by omega)]; rfl
          · have := ih (i + 1) (by omega) (by omega)
            simpa only [List.cons.injEq, he, true_and] using this
        · refine Ev.last fun k => ?_
          rw [sorrelref02_SameInts.l0, if_pos (by omega), if_pos (by omega), if_pos (by omega), ea, eb, if_neg he]
          simp only [List.cons.injEq, he, false_and, decide_false]
      · exact fin i (by omega)
  unfold sorrelref02_SameInts.f
  by_cases hl : a.length = b.length
  · refine Ev.congr (fun k => if_pos (by omega)) ?_
    have := loop hl _ 0 (Nat.le_refl _) (by omega)
    simpa using this
  · refine Ev.congr (fun k => if_neg (by omega)) ?_
    have : a ≠ b := fun h => hl (by rw [h])
    simp only [this, decide_false]
    exact Ev.now _
theorem toList_inj {a b : ByteArray} (h : a.toList = b.toList) : a = b := by
  rw [ByteArray.toList_eq, ByteArray.toList_eq] at h
  cases a; cases b
  congr 1
  exact Array.toList_inj.1 h
open Classical in
theorem sameNode_dec (x y : S45) (hb : x.f3.length ≤ 9223372036854775806) : Ev (fun k => sorrelref02_SameNode.f k x.f0 x.f1 x.f2 x.f3 y.f0 y.f1 y.f2 y.f3) (decide (x = y)) := by
  unfold sorrelref02_SameNode.f
  by_cases h0 : x.f0 = y.f0
  · refine Ev.congr (fun k => if_pos h0) ?_
    by_cases h1 : x.f1 = y.f1
    · refine Ev.congr (fun k => if_pos h1) ?_
      by_cases h2 : x.f2.toList = y.f2.toList
      · refine Ev.congr (fun k => if_pos h2) ?_
        refine Ev.bind (sameInts_dec x.f3 y.f3 hb) ?_
        have e : (decide (x = y)) = decide (x.f3 = y.f3) := by
          have h2' := toList_inj h2
          cases x; cases y
          simp_all
        rw [e]
        exact Ev.now _
      · refine Ev.congr (fun k => if_neg h2) ?_
        have : ¬ x = y := fun h => h2 (by rw [h])
        rw [decide_eq_false this]
        exact Ev.now _
    · refine Ev.congr (fun k => if_neg h1) ?_
      have : ¬ x = y := fun h => h1 (by rw [h])
      rw [decide_eq_false this]
      exact Ev.now _
  · refine Ev.congr (fun k => if_neg h0) ?_
    have : ¬ x = y := fun h => h0 (by rw [h])
    rw [decide_eq_false this]
    exact Ev.now _
open Classical in
theorem same_dec (l m : List S45) (hb : l.length ≤ 9223372036854775806) (hk : ∀ x ∈ l, x.f3.length ≤ 9223372036854775806) : Ev (fun k => sorrelref02_Same.f k l m) (decide (l = m)) := by
  have loop (hl : l.length = m.length) : ∀ (n i : Nat), l.length - i ≤ n → i ≤ l.length → Ev (fun k => sorrelref02_Same.l0 k l m (i : Int)) (decide (l.drop i = m.drop i)) := by
    have fin : ∀ i : Nat, l.length ≤ i → Ev (fun k => sorrelref02_Same.l0 k l m (i : Int)) (decide (l.drop i = m.drop i)) := by
      intro i h
      refine Ev.last fun k => ?_
      rw [sorrelref02_Same.l0, if_neg (by omega), List.drop_eq_nil_of_le (by omega), List.drop_eq_nil_of_le (by omega)]
      simp
    intro n
    induction n with
    | zero => intro i h1 h2; exact fin i (by omega)
    | succ n ih =>
      intro i h1 h2
      by_cases hi : i < l.length
      · have ea : rd_T45 l (i : Int) = l[i] := getD_lt l i _ hi
        have eb : rd_T45 m (i : Int) = m[i] := getD_lt m i _ (by omega)
        refine Ev.step (f := fun k => (sorrelref02_SameNode.f k (l[i]).f0 (l[i]).f1 (l[i]).f2 (l[i]).f3 (m[i]).f0 (m[i]).f1 (m[i]).f2 (m[i]).f3).bind fun t215 => (if t215 = true then (sorrelref02_Same.l0 k l m (wrap64 ((i : Int) + 1))) else (some false))) (fun k => ?_) (Ev.bind (sameNode_dec _ _ (hk _ (List.getElem_mem hi))) ?_)
        · rw [sorrelref02_Same.l0, if_pos (by omega), if_pos (by omega), if_pos (by omega), ea, eb]
        · by_cases he : l[i] = m[i]
          · refine Ev.congr (fun k => if_pos (decide_eq_true he)) ?_
            rw [w64 _ (by omega)]
            have e : (l.drop i = m.drop i) ↔ (l.drop (i + 1) = m.drop (i + 1)) := by
              rw [List.drop_eq_getElem_cons hi, List.drop_eq_getElem_cons (by omega : i < m.length), List.cons.injEq]
              exact ⟨fun h => h.2, fun h => ⟨he, h⟩⟩
            rw [decide_eq_decide.2 e]
            exact ih (i + 1) (by omega) (by omega)
          · refine Ev.congr (fun k => if_neg (by simpa using he)) ?_
            have : ¬ l.drop i = m.drop i := by
              rw [List.drop_eq_getElem_cons hi, List.drop_eq_getElem_cons (by omega : i < m.length), List.cons.injEq]
              exact fun h => he h.1
            rw [decide_eq_false this]
            exact Ev.now _
      · exact fin i (by omega)
  unfold sorrelref02_Same.f
  by_cases hl : l.length = m.length
  · refine Ev.congr (fun k => if_pos (by omega)) ?_
    have := loop hl _ 0 (Nat.le_refl _) (by omega)
    simpa using this
  · refine Ev.congr (fun k => if_neg (by omega)) ?_
    have : ¬ l = m := fun h => hl (by rw [h])
    rw [decide_eq_false this]
    exact Ev.now _
end Go.Proofs.YtacjjfoelhckcaaDoor.PExprPlays

/- Plain laws over trees, part 1: a sound text is the postfix of one tree. -/
namespace Go.Proofs.YtacjjfoelhckcaaDoor.PExprPlays
open Go.RowKit Go.Proofs.YtacjjfoelhckcaaDoorW.PrintWords
set_option linter.unusedVariables false

inductive T where
  | mk : Int → Int → ByteArray → List T → T
mutual
def T.size : T → Nat
  | .mk _ _ _ ts => sizeL ts + 1
def sizeL : List T → Nat
  | [] => 0
  | t :: ts => t.size + sizeL ts
end
def roots (c : Nat) : List T → List Int
  | [] => []
  | t :: ts => ((c + t.size - 1 : Nat) : Int) :: roots (c + t.size) ts
mutual
/-- A tree's nodes in postfix, the first at c. -/
def T.flat (c : Nat) : T → List S45
  | .mk op n name ts => flatL c ts ++ [⟨op, n, name, roots c ts⟩]
def flatL (c : Nat) : List T → List S45
  | [] => []
  | t :: ts => t.flat c ++ flatL (c + t.size) ts
end
mutual
def T.ok : T → Bool
  | .mk op n name ts => formB op n name ts.length && okL ts
def okL : List T → Bool
  | [] => true
  | t :: ts => t.ok && okL ts
end
theorem size_pos (t : T) : 1 ≤ t.size := by
  cases t with | mk op n name ts => rw [T.size]; omega
theorem roots_len (ts : List T) : ∀ c, (roots c ts).length = ts.length := by
  induction ts with
  | nil => intro c; rfl
  | cons t ts ih => intro c; rw [roots, List.length_cons, ih, List.length_cons]
theorem sizeL_app (ts us : List T) : sizeL (ts ++ us) = sizeL ts + sizeL us := by
  induction ts with
  | nil => simp [sizeL]
  | cons t ts ih => rw [List.cons_append, sizeL, sizeL, ih]; omega
theorem roots_app (ts us : List T) : ∀ c, roots c (ts ++ us) = roots c ts ++ roots (c + sizeL ts) us := by
  induction ts with
  | nil => intro c; simp [sizeL, roots]
  | cons t ts ih => intro c; rw [List.cons_append, roots, roots, ih, sizeL, List.cons_append, Nat.add_assoc]
theorem flatL_app (ts us : List T) : ∀ c, flatL c (ts ++ us) = flatL c ts ++ flatL (c + sizeL ts) us := by
  induction ts with
  | nil => intro c; simp [sizeL, flatL]
  | cons t ts ih => intro c; rw [List.cons_append, flatL, flatL, ih, sizeL, List.append_assoc, Nat.add_assoc]
theorem okL_app (ts us : List T) : okL (ts ++ us) = (okL ts && okL us) := by
  induction ts with
  | nil => simp [okL]
  | cons t ts ih => rw [List.cons_append, okL, okL, ih, Bool.and_assoc]
mutual
theorem flat_len (c : Nat) : ∀ t : T, (t.flat c).length = t.size
  | .mk op n name ts => by rw [T.flat, List.length_append, flatL_len c ts, T.size]; rfl
theorem flatL_len (c : Nat) : ∀ ts : List T, (flatL c ts).length = sizeL ts
  | [] => rfl
  | t :: ts => by rw [flatL, List.length_append, flat_len c t, flatL_len (c + t.size) ts, sizeL]
end
theorem len_le_size (ts : List T) : ts.length ≤ sizeL ts := by
  induction ts with
  | nil => simp
  | cons t ts ih => have := size_pos t; rw [sizeL, List.length_cons]; omega
/- The check goes well over a tree's nodes from any open ones: it leaves the tree's root open beside them. -/
mutual
theorem check_flat (r : List S45) : ∀ (t : T), t.ok = true → ∀ (st : List Int) (c : Nat), checkFrom st c (t.flat c ++ r) = checkFrom (st ++ [((c + t.size - 1 : Nat) : Int)]) (c + t.size) r
  | .mk op n name ts, h, st, c => by
    rw [T.ok, Bool.and_eq_true] at h
    rw [T.flat, List.append_assoc, check_flatL _ ts h.2 st c, List.singleton_append, checkFrom]
    have hl := roots_len ts c
    have hfit : fitsN (st ++ roots c ts) (⟨op, n, name, roots c ts⟩ : S45) = true := by
      simp only [fitsN, formN, hl, h.1, Bool.true_and, Bool.and_eq_true, decide_eq_true_eq, List.length_append]
      refine ⟨by omega, ?_⟩
      rw [show st.length + ts.length - ts.length = st.length by omega, List.drop_left]
    rw [if_pos hfit, T.size]
    simp only [List.length_append, hl]
    rw [show st.length + ts.length - ts.length = st.length by omega, List.take_left]
    rfl
theorem check_flatL (r : List S45) : ∀ (ts : List T), okL ts = true → ∀ (st : List Int) (c : Nat), checkFrom st c (flatL c ts ++ r) = checkFrom (st ++ roots c ts) (c + sizeL ts) r
  | [], _, st, c => by simp [flatL, roots, sizeL]
  | t :: ts, h, st, c => by
    rw [okL, Bool.and_eq_true] at h
    rw [flatL, List.append_assoc, check_flat _ t h.1 st c, check_flatL _ ts h.2, roots, sizeL, List.append_assoc, Nat.add_assoc]
    rfl
end
theorem checkE_flat (t : T) (h : t.ok = true) (hs : t.size ≤ 64) : checkE (t.flat 0) = 0 := by
  have h1 := size_pos t
  have hl := flat_len 0 t
  have := check_flat [] t h [] 0
  rw [List.append_nil] at this
  rw [checkE, if_neg (by omega), this, checkFrom, if_pos (by simp)]
theorem check_trees : ∀ (r : List S45) (ts : List T), okL ts = true → checkFrom (roots 0 ts) (sizeL ts) r = 0 → ∃ t : T, t.ok = true ∧ flatL 0 ts ++ r = t.flat 0 := by
  intro r
  induction r with
  | nil =>
    intro ts hok h
    rw [checkFrom] at h
    split at h
    · rename_i hl
      rw [roots_len] at hl
      obtain ⟨t, rfl⟩ := List.length_eq_one_iff.1 hl
      refine ⟨t, by simpa [okL] using hok, by simp [flatL]⟩
    · cases h
  | cons x r ih =>
    intro ts hok h
    rw [checkFrom] at h
    split at h
    · rename_i hfit
      simp only [fitsN, Bool.and_eq_true, decide_eq_true_eq, roots_len] at hfit
      obtain ⟨⟨hf, hle⟩, hd⟩ := hfit
      -- the last of the open trees are this node's kids
      have hsplit : ts = ts.take (ts.length - x.f3.length) ++ ts.drop (ts.length - x.f3.length) := (List.take_append_drop _ _).symm
      generalize hA : ts.take (ts.length - x.f3.length) = A at hsplit
      generalize hB : ts.drop (ts.length - x.f3.length) = B at hsplit
      have hAl : A.length = ts.length - x.f3.length := by rw [← hA, List.length_take]; omega
      have hr : roots 0 ts = roots 0 A ++ roots (sizeL A) B := by rw [hsplit, roots_app, Nat.zero_add]
      have hk : roots (sizeL A) B = x.f3 := by
        rw [hr, ← hAl, ← roots_len A 0, List.drop_left] at hd
        exact hd
      rw [roots_len, hr, ← hAl, ← roots_len A 0, List.take_left] at h
      have hok2 : okL A = true ∧ okL B = true := by rw [hsplit, okL_app, Bool.and_eq_true] at hok; exact hok
      have hBl : B.length = x.f3.length := by rw [← hk, roots_len]
      have hnew : okL (A ++ [.mk x.f0 x.f1 x.f2 B]) = true := by
        rw [okL_app, hok2.1]
        simp only [okL, T.ok, hok2.2, hBl, Bool.and_true, Bool.true_and]
        exact hf
      have hsz : sizeL ts = sizeL A + sizeL B := by rw [hsplit, sizeL_app]
      have hroots : roots 0 (A ++ [.mk x.f0 x.f1 x.f2 B]) = roots 0 A ++ [((sizeL ts : Nat) : Int)] := by
        rw [roots_app, Nat.zero_add, roots, roots, T.size, hsz]
        rfl
      have hsize : sizeL (A ++ [.mk x.f0 x.f1 x.f2 B]) = sizeL ts + 1 := by
        rw [sizeL_app, sizeL, sizeL, T.size, hsz]
        omega
      obtain ⟨t, ht, e⟩ := ih (A ++ [.mk x.f0 x.f1 x.f2 B]) hnew (by rw [hroots, hsize]; exact h)
      refine ⟨t, ht, ?_⟩
      rw [← e, flatL_app, Nat.zero_add, flatL, flatL, T.flat, hk, List.append_nil, hsplit, flatL_app, Nat.zero_add, List.append_assoc, List.append_assoc, List.append_assoc]
      rfl
    · cases h
theorem checkE_tree {l : List S45} (h : checkE l = 0) : ∃ t : T, t.ok = true ∧ t.size ≤ 64 ∧ l = t.flat 0 := by
  unfold checkE at h
  split at h
  · cases h
  · rename_i hl
    obtain ⟨t, ht, e⟩ := check_trees l [] rfl h
    have e' : l = t.flat 0 := e
    refine ⟨t, ht, ?_, e'⟩
    rw [← flat_len 0 t, ← e']
    omega
end Go.Proofs.YtacjjfoelhckcaaDoor.PExprPlays

/- Plain laws over trees, part 2: subtrees, their places, a subtree replaced. -/
namespace Go.Proofs.YtacjjfoelhckcaaDoor.PExprPlays
open Go.RowKit Go.Proofs.YtacjjfoelhckcaaDoorW.PrintWords
set_option linter.unusedVariables false

def moved (d : Int) (x : S45) : S45 := ⟨x.f0, x.f1, x.f2, x.f3.map (· + d)⟩
theorem roots_moved (d : Nat) : ∀ (ts : List T) (c : Nat), roots (c + d) ts = (roots c ts).map (· + (d : Int))
  | [], c => rfl
  | t :: ts, c => by
    have := size_pos t
    rw [roots, roots, List.map_cons, show c + d + t.size = c + t.size + d by omega, roots_moved d ts (c + t.size)]
    congr 1
    omega
mutual
theorem flat_moved (d : Nat) : ∀ (t : T) (c : Nat), t.flat (c + d) = (t.flat c).map (moved d)
  | .mk op n name ts, c => by
    rw [T.flat, T.flat, List.map_append, flatL_moved d ts c, List.map_cons, List.map_nil, roots_moved]
    rfl
theorem flatL_moved (d : Nat) : ∀ (ts : List T) (c : Nat), flatL (c + d) ts = (flatL c ts).map (moved d)
  | [], c => rfl
  | t :: ts, c => by
    rw [flatL, flatL, List.map_append, flat_moved d t c, show c + d + t.size = c + t.size + d by omega, flatL_moved d ts (c + t.size)]
end
theorem roots_in : ∀ (ts : List T) (c : Nat), ∀ k ∈ roots c ts, (c : Int) ≤ k ∧ k < ((c + sizeL ts : Nat) : Int)
  | [], c, k, hk => by cases hk
  | t :: ts, c, k, hk => by
    have := size_pos t
    rw [roots] at hk
    rw [sizeL]
    rcases List.mem_cons.1 hk with rfl | hk
    · omega
    · have := roots_in ts (c + t.size) k hk
      omega
mutual
theorem flat_in : ∀ (t : T) (c : Nat), ∀ x ∈ t.flat c, ∀ k ∈ x.f3, (c : Int) ≤ k ∧ k < ((c + t.size : Nat) : Int)
  | .mk op n name ts, c, x, hx, k, hk => by
    rw [T.flat] at hx
    rw [T.size]
    rcases List.mem_append.1 hx with hx | hx
    · have := flatL_in ts c x hx k hk
      omega
    · obtain rfl := List.mem_singleton.1 hx
      have := roots_in ts c k hk
      omega
theorem flatL_in : ∀ (ts : List T) (c : Nat), ∀ x ∈ flatL c ts, ∀ k ∈ x.f3, (c : Int) ≤ k ∧ k < ((c + sizeL ts : Nat) : Int)
  | [], c, x, hx, k, hk => by cases hx
  | t :: ts, c, x, hx, k, hk => by
    rw [flatL] at hx
    rw [sizeL]
    rcases List.mem_append.1 hx with hx | hx
    · have := flat_in t c x hx k hk
      omega
    · have := flatL_in ts (c + t.size) x hx k hk
      omega
end
inductive At : T → Nat → T → Nat → Prop
  | here (t : T) (c : Nat) : At t c t c
  | kid (op n : Int) (name : ByteArray) (us : List T) (t : T) (ts : List T) (c : Nat) (s : T) (b : Nat) (h : At t (c + sizeL us) s b) : At (.mk op n name (us ++ t :: ts)) c s b
mutual
/-- At each place a part has its root. -/
theorem at_of : ∀ (t : T) (c i : Nat), c ≤ i → i < c + t.size → ∃ s b, At t c s b ∧ i + 1 = b + s.size
  | .mk op n name ts, c, i, h1, h2 => by
    by_cases he : i = c + sizeL ts
    · exact ⟨_, c, .here _ _, by rw [T.size]; omega⟩
    · rw [T.size] at h2
      obtain ⟨us, t, vs, e, s, b, h, hs⟩ := at_ofL ts c i h1 (by omega)
      subst e
      exact ⟨s, b, .kid op n name us t vs c s b h, hs⟩
theorem at_ofL : ∀ (ts : List T) (c i : Nat), c ≤ i → i < c + sizeL ts → ∃ us t vs, ts = us ++ t :: vs ∧ ∃ s b, At t (c + sizeL us) s b ∧ i + 1 = b + s.size
  | [], c, i, h1, h2 => by rw [sizeL] at h2; omega
  | t :: ts, c, i, h1, h2 => by
    rw [sizeL] at h2
    by_cases he : i < c + t.size
    · obtain ⟨s, b, h, hs⟩ := at_of t c i h1 he
      exact ⟨[], t, ts, rfl, s, b, by rw [sizeL, Nat.add_zero]; exact h, hs⟩
    · obtain ⟨us, u, vs, e, s, b, h, hs⟩ := at_ofL ts (c + t.size) i (by omega) (by omega)
      refine ⟨t :: us, u, vs, by rw [e]; rfl, s, b, ?_, hs⟩
      rw [sizeL, ← Nat.add_assoc]
      exact h
end
theorem At.split {t s : T} {c b : Nat} (h : At t c s b) : ∃ pre post, t.flat c = pre ++ s.flat b ++ post ∧ c + pre.length = b ∧ pre.length + s.size + post.length = t.size := by
  induction h with
  | here t c => exact ⟨[], [], by simp, by simp, by simp⟩
  | kid op n name us t ts c s b h ih =>
    obtain ⟨pre, post, e, h1, h2⟩ := ih
    refine ⟨flatL c us ++ pre, post ++ (flatL (c + sizeL us + t.size) ts ++ [⟨op, n, name, roots c (us ++ t :: ts)⟩]), ?_, ?_, ?_⟩
    · rw [T.flat, flatL_app, flatL, e]
      simp only [List.append_assoc]
    · rw [List.length_append, flatL_len]; omega
    · rw [T.size, sizeL_app, sizeL]
      simp only [List.length_append, flatL_len, List.length_singleton]
      omega
theorem At.ok {t s : T} {c b : Nat} (h : At t c s b) (hok : t.ok = true) : s.ok = true := by
  induction h with
  | here t c => exact hok
  | kid op n name us t ts c s b h ih =>
    rw [T.ok, Bool.and_eq_true, okL_app, Bool.and_eq_true, okL, Bool.and_eq_true] at hok
    exact ih hok.2.2.1
end Go.Proofs.YtacjjfoelhckcaaDoor.PExprPlays

/- Plain laws over trees, part 3: where a part begins; Part. -/
namespace Go.Proofs.YtacjjfoelhckcaaDoor.PExprPlays
open Go.RowKit Go.Proofs.YtacjjfoelhckcaaDoorW.PrintWords
set_option linter.unusedVariables false

def rootN (b : Nat) : T → S45
  | .mk op n name ts => ⟨op, n, name, roots b ts⟩
theorem flat_root (b : Nat) (s : T) : ∃ ini, s.flat b = ini ++ [rootN b s] ∧ ini.length + 1 = s.size := by
  cases s with
  | mk op n name ts => exact ⟨flatL b ts, rfl, by rw [flatL_len, T.size]⟩
theorem seg_root {l pre post : List S45} {b : Nat} {s : T} (e : l = pre ++ s.flat b ++ post) (hp : pre.length = b) : ∃ h : b + s.size - 1 < l.length, l[b + s.size - 1] = rootN b s := by
  obtain ⟨ini, e2, h2⟩ := flat_root b s
  have hl : l.length = pre.length + s.size + post.length := by rw [e]; simp [flat_len]; omega
  refine ⟨by omega, ?_⟩
  have e3 : l = (pre ++ ini) ++ rootN b s :: post := by rw [e, e2]; simp
  have h4 : b + s.size - 1 = (pre ++ ini).length := by rw [List.length_append]; omega
  subst e3
  simp only [h4]
  rw [List.getElem_append_right (by omega)]
  simp
theorem begin_ev (l : List S45) (hl : l.length ≤ 64) : ∀ (m : Nat) (s : T) (b : Nat) (pre post : List S45), s.size ≤ m → l = pre ++ s.flat b ++ post → pre.length = b → Ev (fun k => expr_begin.f k l ((b + s.size - 1 : Nat) : Int)) (b : Int) := by
  intro m
  induction m with
  | zero => intro s b pre post h _ _; have := size_pos s; omega
  | succ m ih =>
    intro s b pre post h e hp
    obtain ⟨hlt, hroot⟩ := seg_root e hp
    have ea : rd_T45 l ((b + s.size - 1 : Nat) : Int) = rootN b s := (getD_lt l _ _ hlt).trans hroot
    cases s with
    | mk op n name ts =>
      cases ts with
      | nil =>
        refine Ev.last fun k => ?_
        show expr_begin.l0 (k + 1) l _ = _
        have hf : (rootN b (.mk op n name [])).f3 = [] := rfl
        rw [expr_begin.l0, if_pos (by omega), if_pos (by omega), ea, hf, if_neg (by simp)]
        rw [T.size, sizeL]
        rfl
      | cons t ts =>
        have hf : (rootN b (.mk op n name (t :: ts))).f3 = ((b + t.size - 1 : Nat) : Int) :: roots (b + t.size) ts := rfl
        have hts : t.size ≤ m := by rw [T.size, sizeL] at h; omega
        have e2 : l = pre ++ t.flat b ++ (flatL (b + t.size) ts ++ [⟨op, n, name, roots b (t :: ts)⟩] ++ post) := by rw [e, T.flat, flatL]; simp
        refine Ev.step (f := fun k => expr_begin.f k l ((b + t.size - 1 : Nat) : Int)) (fun k => ?_) (ih t b pre _ hts e2 hp)
        show expr_begin.l0 (k + 1) l _ = expr_begin.l0 k l _
        rw [expr_begin.l0, if_pos (by omega), if_pos (by omega), ea, hf, if_pos (by simp), if_pos (by simp)]
        rfl
theorem moved_back (b : Nat) (s : T) (hs : b + s.size ≤ 64) : (s.flat b).map (shiftZ (-(b : Int))) = s.flat 0 := by
  have e := flat_moved b s 0
  rw [Nat.zero_add] at e
  rw [e, List.map_map]
  conv => rhs; rw [← List.map_id (s.flat 0)]
  refine List.map_congr_left fun x hx => ?_
  have hk := flat_in s 0 x hx
  show shiftZ (-(b : Int)) (moved b x) = x
  unfold shiftZ moved
  have e3 : (x.f3.map (· + (b : Int))).map (fun k => wrap64 (k + -(b : Int))) = x.f3 := by
    rw [List.map_map]
    conv => rhs; rw [← List.map_id x.f3]
    refine List.map_congr_left fun k hkk => ?_
    have := hk k hkk
    show wrap64 (k + b + -(b : Int)) = k
    rw [w64 _ (by omega)]
    omega
  rw [e3]
theorem part_ev (t : T) (hok : t.ok = true) (hs : t.size ≤ 64) (hk : ∀ x ∈ t.flat 0, okE x) (s : T) (b : Nat) (h : At t 0 s b) : Ev (fun k => expr_Part.f k (t.flat 0) ((b + s.size - 1 : Nat) : Int)) (s.flat 0, 0) := by
  obtain ⟨pre, post, e, h1, h2⟩ := h.split
  rw [Nat.zero_add] at h1
  have hlen := flat_len 0 t
  have hsp := size_pos s
  have hb := begin_ev (t.flat 0) (by omega) s.size s b pre post (Nat.le_refl _) e h1
  have hseg : ((t.flat 0).take (b + s.size)).drop b = s.flat b := by
    rw [e, ← h1, List.append_assoc, List.take_length_add_append, List.drop_left]
    have : (s.flat pre.length).length = s.size := flat_len _ s
    rw [← this, List.take_left]
  unfold expr_Part.f
  refine Ev.bind (check_ev _ hk) ?_
  refine Ev.congr (fun k => if_pos (checkE_flat t hok hs)) ?_
  refine Ev.congr (fun k => if_neg (by omega)) ?_
  refine Ev.step (f := fun k => (expr_begin.f k (t.flat 0) ((b + s.size - 1 : Nat) : Int)).bind fun t146 => (if 0 ≤ t146 then (if t146 ≤ (wrap64 (((b + s.size - 1 : Nat) : Int) + 1)) then (if (wrap64 (((b + s.size - 1 : Nat) : Int) + 1)) ≤ ((t.flat 0).length : Int) then ((expr_join.f k ([] : List (S45)) (((t.flat 0).take ((wrap64 (((b + s.size - 1 : Nat) : Int) + 1)) : Int).toNat).drop (t146 : Int).toNat) (wrap64 (-t146))).bind fun t151 => (some (t151, 0))) else (none)) else (none)) else (none))) (fun k => ?_) (Ev.bind hb ?_)
  · rw [expr_Part.j0, if_neg (by simp; omega)]
  have e1 : wrap64 (((b + s.size - 1 : Nat) : Int) + 1) = ((b + s.size : Nat) : Int) := by rw [w64 _ (by omega)]; omega
  have e2 : wrap64 (-(b : Int)) = -(b : Int) := w64 _ (by omega)
  rw [e1, e2]
  clear e1 e2
  refine Ev.congr (fun k => if_pos (by omega)) ?_
  refine Ev.congr (fun k => if_pos (by omega)) ?_
  refine Ev.congr (fun k => if_pos (by omega)) ?_
  rw [Int.toNat_natCast, Int.toNat_natCast, hseg]
  have hj := joinZ_ev [] (s.flat b) (-(b : Int)) (by rw [flat_len]; simp; omega) (fun x hx => hk x (by rw [e]; simp [hx]))
  rw [moved_back b s (by omega), List.nil_append] at hj
  exact Ev.bind hj (Ev.now _)
end Go.Proofs.YtacjjfoelhckcaaDoor.PExprPlays

/- Plain laws over trees, part 6: a part replaced. -/
namespace Go.Proofs.YtacjjfoelhckcaaDoor.PExprPlays
open Go.RowKit Go.Proofs.YtacjjfoelhckcaaDoorW.PrintWords
set_option linter.unusedVariables false

inductive Rep : T → Nat → T → Nat → T → T → Prop
  | here (s : T) (c : Nat) (m : T) : Rep s c s c m m
  | kid (op n : Int) (name : ByteArray) (us : List T) (t : T) (ts : List T) (c : Nat) (s : T) (b : Nat) (m u : T) (h : Rep t (c + sizeL us) s b m u) : Rep (.mk op n name (us ++ t :: ts)) c s b m (.mk op n name (us ++ u :: ts))
theorem Rep.at_ {t s m u : T} {c b : Nat} (h : Rep t c s b m u) : At t c s b := by
  induction h with
  | here s c m => exact .here s c
  | kid op n name us t ts c s b m u h ih => exact .kid op n name us t ts c s b ih
theorem At.rep {t s : T} {c b : Nat} (h : At t c s b) (m : T) : ∃ u, Rep t c s b m u := by
  induction h with
  | here t c => exact ⟨m, .here t c m⟩
  | kid op n name us t ts c s b h ih =>
    obtain ⟨u, hu⟩ := ih
    exact ⟨_, .kid op n name us t ts c s b m u hu⟩
theorem Rep.size {t s m u : T} {c b : Nat} (h : Rep t c s b m u) : u.size + s.size = t.size + m.size := by
  induction h with
  | here s c m => omega
  | kid op n name us t ts c s b m u h ih =>
    rw [T.size, T.size, sizeL_app, sizeL_app, sizeL, sizeL]
    omega
theorem Rep.ok {t s m u : T} {c b : Nat} (h : Rep t c s b m u) (ht : t.ok = true) (hm : m.ok = true) : u.ok = true := by
  induction h with
  | here s c m => exact hm
  | kid op n name us t ts c s b m u h ih =>
    rw [T.ok, Bool.and_eq_true, okL_app, Bool.and_eq_true, okL, Bool.and_eq_true] at ht ⊢
    refine ⟨?_, ht.2.1, ih ht.2.2.1 hm, ht.2.2.2⟩
    have e : (us ++ u :: ts).length = (us ++ t :: ts).length := by simp
    rw [e]
    exact ht.1
def reloc (i d : Int) (x : S45) : S45 := ⟨x.f0, x.f1, x.f2, x.f3.map fun k => if k ≥ i then k + d else k⟩
theorem flatL_reloc (ts : List T) (x y : Nat) (i d : Int) (hi : i ≤ x) (hy : (y : Int) = x + d) : flatL y ts = (flatL x ts).map (reloc i d) := by
  have e1 := flatL_moved y ts 0
  have e2 := flatL_moved x ts 0
  rw [Nat.zero_add] at e1 e2
  rw [e1, e2, List.map_map]
  refine List.map_congr_left fun z hz => ?_
  show moved y z = reloc i d (moved x z)
  unfold moved reloc
  dsimp only
  congr 1
  rw [List.map_map]
  refine List.map_congr_left fun k hk => ?_
  have := flatL_in ts 0 z hz k hk
  show k + (y : Int) = if k + (x : Int) ≥ i then k + (x : Int) + d else k + (x : Int)
  rw [if_pos (by omega)]
  omega
theorem roots_reloc (ts : List T) (x y : Nat) (i d : Int) (hi : i ≤ x) (hy : (y : Int) = x + d) : roots y ts = (roots x ts).map (fun k => if k ≥ i then k + d else k) := by
  have e1 := roots_moved y ts 0
  have e2 := roots_moved x ts 0
  rw [Nat.zero_add] at e1 e2
  rw [e1, e2, List.map_map]
  refine List.map_congr_left fun k hk => ?_
  have := roots_in ts 0 k hk
  show k + (y : Int) = if k + (x : Int) ≥ i then k + (x : Int) + d else k + (x : Int)
  rw [if_pos (by omega)]
  omega
theorem Rep.flat_ {t s m u : T} {c b : Nat} (h : Rep t c s b m u) : ∃ pre post, t.flat c = pre ++ s.flat b ++ post ∧ u.flat c = pre ++ m.flat b ++ post.map (reloc ((b : Int) + s.size - 1) ((m.size : Int) - s.size)) ∧ c + pre.length = b ∧ b + s.size ≤ c + t.size := by
  induction h with
  | here s c m => exact ⟨[], [], by simp, by simp, by simp, Nat.le_refl _⟩
  | kid op n name us t ts c s b m u h ih =>
    obtain ⟨pre, post, e1, e2, e3, e4⟩ := ih
    have hsz := h.size
    have hsp := size_pos s
    have hup := size_pos u
    have htp := size_pos t
    refine ⟨flatL c us ++ pre, post ++ (flatL (c + sizeL us + t.size) ts ++ [⟨op, n, name, roots c (us ++ t :: ts)⟩]), ?_, ?_, ?_, ?_⟩
    · rw [T.flat, flatL_app, flatL, e1]
      simp only [List.append_assoc]
    · have f1 := flatL_reloc ts (c + sizeL us + t.size) (c + sizeL us + u.size) ((b : Int) + s.size - 1) ((m.size : Int) - s.size) (by omega) (by omega)
      have f2 := roots_reloc ts (c + sizeL us + t.size) (c + sizeL us + u.size) ((b : Int) + s.size - 1) ((m.size : Int) - s.size) (by omega) (by omega)
      have f3 : roots c (us ++ u :: ts) = (roots c (us ++ t :: ts)).map (fun k => if k ≥ (b : Int) + s.size - 1 then k + ((m.size : Int) - s.size) else k) := by
        rw [roots_app, roots_app, roots, roots, List.map_append, List.map_cons, ← f2]
        congr 1
        · conv => lhs; rw [← List.map_id (roots c us)]
          refine List.map_congr_left fun k hk => ?_
          have := roots_in us c k hk
          rw [if_neg (by omega)]; rfl
        · congr 1
          rw [if_pos (by omega)]
          omega
      rw [T.flat, flatL_app, flatL, e2, f1, f3]
      simp only [List.append_assoc, List.map_append, List.map_cons, List.map_nil, reloc]
    · rw [List.length_append, flatL_len]; omega
    · rw [T.size, sizeL_app, sizeL]; omega
end Go.Proofs.YtacjjfoelhckcaaDoor.PExprPlays

/- Plain laws over trees, part 7: Put. -/
namespace Go.Proofs.YtacjjfoelhckcaaDoor.PExprPlays
open Go.RowKit Go.Proofs.YtacjjfoelhckcaaDoorW.PrintWords
set_option linter.unusedVariables false

theorem set_step2 (kids : List Int) (g : Int → Int) (i : Nat) (hi : i < kids.length) : ((kids.take i).map g ++ kids.drop i).set i (g kids[i]) = (kids.take (i + 1)).map g ++ kids.drop (i + 1) := by
  have e2 : i - ((kids.take i).map g).length = 0 := by simp; omega
  rw [List.set_append_right _ _ (by simp; omega), e2, List.drop_eq_getElem_cons hi, List.set_cons_zero, List.take_succ_eq_append_getElem hi, List.map_append, List.append_assoc]
  rfl
theorem clone_eq (kids : List Int) (h : kids.length ≤ 17592186043904) : slices_Clone_int.f kids = some kids := by
  unfold slices_Clone_int.f
  rw [Option.bind_some, if_pos (by simp; omega)]
  rfl
def mv (i d : Int) (k : Int) : Int := if k ≥ i then wrap64 (k + d) else k
theorem put_loop (i d : Int) (y : List S45) (x0 : List S45) (h0 : x0.length + y.length ≤ 2513169434843) (hk : ∀ x ∈ y, x.f3.length ≤ 17592186043904) : ∀ (n j : Nat), y.length - j ≤ n → j ≤ y.length →
    Ev (fun k => expr_Put.l0 k i d (x0 ++ (y.take j).map fun x => (⟨x.f0, x.f1, x.f2, x.f3.map (mv i d)⟩ : S45)) y (y.length : Int) (j : Int)) (x0 ++ y.map (fun x => (⟨x.f0, x.f1, x.f2, x.f3.map (mv i d)⟩ : S45)), 0) := by
  have inner : ∀ (xs : List S45) (j : Nat) (x : S45) (hx : x.f3.length ≤ 17592186043904) (v : List S45 × Int) (hxs : xs.length < 2513169434916),
      Ev (fun k => expr_Put.l0 k i d (xs ++ [(⟨x.f0, x.f1, x.f2, x.f3.map (mv i d)⟩ : S45)]) y (y.length : Int) (wrap64 ((j : Int) + 1))) v → ∀ (n q : Nat), x.f3.length - q ≤ n → q ≤ x.f3.length →
      Ev (fun k => expr_Put.l1 k i d xs ((x.f3.take q).map (mv i d) ++ x.f3.drop q) y (y.length : Int) j (x.f3.length : Int) (q : Int) x.f0 x.f1 x.f2 x.f3) v := by
    intro xs j x hx v hxs hv
    have fin : ∀ q : Nat, q ≤ x.f3.length → x.f3.length ≤ q → Ev (fun k => expr_Put.l1 k i d xs ((x.f3.take q).map (mv i d) ++ x.f3.drop q) y (y.length : Int) j (x.f3.length : Int) (q : Int) x.f0 x.f1 x.f2 x.f3) v := by
      intro q h1 h2
      refine Ev.step (fun k => ?_) hv
      rw [expr_Put.l1, if_neg (by omega), if_pos hxs, List.take_of_length_le (by omega), List.drop_eq_nil_of_le (by omega), List.append_nil]
    intro n
    induction n with
    | zero => intro q h1 h2; exact fin q h2 (by omega)
    | succ n ih =>
      intro q h1 h2
      by_cases hq : q < x.f3.length
      · have hlen : ((x.f3.take q).map (mv i d) ++ x.f3.drop q).length = x.f3.length := by simp; omega
        have ea : rd ((x.f3.take q).map (mv i d) ++ x.f3.drop q) (q : Int) = x.f3[q] := by
          show ((x.f3.take q).map (mv i d) ++ x.f3.drop q).getD q 0 = _
          rw [getD_lt _ q 0 (by omega), List.getElem_append_right (by simp; omega)]
          simp
          congr 1
          omega
        have go := ih (q + 1) (by omega) (by omega)
        refine Ev.step (fun k => ?_) go
        rw [expr_Put.l1, if_pos (by omega), if_pos (by omega), if_pos (by omega), ea, w64 ((q : Int) + 1) (by omega), Int.toNat_natCast]
        have hs := set_step2 x.f3 (mv i d) q hq
        by_cases hc : x.f3[q] ≥ i
        · rw [if_pos hc]
          have : mv i d x.f3[q] = wrap64 (x.f3[q] + d) := if_pos hc
          rw [← this, hs]; rfl
        · rw [if_neg hc]
          have : mv i d x.f3[q] = x.f3[q] := if_neg hc
          rw [this] at hs
          have e : ((x.f3.take q).map (mv i d) ++ x.f3.drop q).set q x.f3[q] = (x.f3.take q).map (mv i d) ++ x.f3.drop q := by
            rw [List.drop_eq_getElem_cons hq, List.set_append_right _ _ (by simp; omega)]
            congr 1
            have : q - ((x.f3.take q).map (mv i d)).length = 0 := by simp; omega
            rw [this]; rfl
          rw [e] at hs
          rw [hs]; rfl
      · exact fin q h2 (by omega)
  intro n
  have fin : ∀ j : Nat, j ≤ y.length → y.length ≤ j → Ev (fun k => expr_Put.l0 k i d (x0 ++ (y.take j).map fun x => (⟨x.f0, x.f1, x.f2, x.f3.map (mv i d)⟩ : S45)) y (y.length : Int) (j : Int)) (x0 ++ y.map (fun x => (⟨x.f0, x.f1, x.f2, x.f3.map (mv i d)⟩ : S45)), 0) := by
    intro j h1 h2
    refine Ev.last fun k => ?_
    rw [expr_Put.l0, if_neg (by omega), List.take_of_length_le (by omega)]
  induction n with
  | zero => intro j h1 h2; exact fin j h2 (by omega)
  | succ n ih =>
    intro j h1 h2
    by_cases hj : j < y.length
    · have ea : rd_T45 y (j : Int) = y[j] := getD_lt y j _ hj
      have hx := hk _ (List.getElem_mem hj)
      have go := ih (j + 1) (by omega) (by omega)
      rw [List.take_succ_eq_append_getElem hj, List.map_append, ← List.append_assoc] at go
      have := inner (x0 ++ (y.take j).map fun x => (⟨x.f0, x.f1, x.f2, x.f3.map (mv i d)⟩ : S45)) j y[j] hx _ (by simp; omega) (by rw [w64 _ (by omega)]; exact go) (y[j]).f3.length 0 (by omega) (by omega)
      refine Ev.step (fun k => ?_) this
      rw [expr_Put.l0, if_pos (by omega), if_pos (by omega), if_pos (by omega), ea, clone_eq _ hx]
      rfl
    · exact fin j h2 (by omega)
end Go.Proofs.YtacjjfoelhckcaaDoor.PExprPlays

/- Plain laws over trees, part 8: Put and Part, all their answers. -/
namespace Go.Proofs.YtacjjfoelhckcaaDoor.PExprPlays
open Go.RowKit Go.Proofs.YtacjjfoelhckcaaDoorW.PrintWords
set_option linter.unusedVariables false

theorem put_go (l m : List S45) (hk : ∀ x ∈ l, okE x) (hmk : ∀ x ∈ m, okE x) (hc : checkE l = 0) (hm : checkE m = 0) (i : Int) (v : List S45 × Int) (h : Ev (fun k => expr_Put.j0 (k + 1) l i m false) v) : Ev (fun k => expr_Put.f k l i m) v := by
  unfold expr_Put.f
  refine Ev.bind (check_ev _ hk) (Ev.congr (fun k => if_pos hc) ?_)
  refine Ev.bind (check_ev _ hmk) ?_
  have e : (checkE m != 0) = false := by rw [hm]; rfl
  rw [e]
  exact Ev.step (fun _ => rfl) h
theorem put_form (l m : List S45) (hk : ∀ x ∈ l, okE x) (hmk : ∀ x ∈ m, okE x) (hc : checkE l ≠ 0 ∨ checkE m ≠ 0) (i : Int) : Ev (fun k => expr_Put.f k l i m) ([], 1) := by
  have hj : Ev (fun k => expr_Put.j0 k l i m true) ([], 1) := by
    refine Ev.last fun k => ?_
    rw [expr_Put.j0, if_pos rfl]
  unfold expr_Put.f
  refine Ev.bind (check_ev _ hk) ?_
  by_cases h : checkE l = 0
  · refine Ev.congr (fun k => if_pos h) ?_
    refine Ev.bind (check_ev _ hmk) ?_
    have hm : checkE m ≠ 0 := by
      rcases hc with hc | hc
      · exact absurd h hc
      · exact hc
    have e : (checkE m != 0) = true := by simpa using hm
    rw [e]
    exact hj
  · exact Ev.congr (fun k => if_neg h) hj
theorem put_arg (l m : List S45) (hk : ∀ x ∈ l, okE x) (hmk : ∀ x ∈ m, okE x) (hc : checkE l = 0) (hm : checkE m = 0) (i : Int) (hi : i < 0 ∨ (l.length : Int) ≤ i) : Ev (fun k => expr_Put.f k l i m) ([], 2) := by
  refine put_go l m hk hmk hc hm i _ (Ev.pure fun k => ?_)
  rw [expr_Put.j0, if_neg (by simp)]
  by_cases h : i < 0
  · rw [if_pos h]
  · rw [if_neg h, if_pos (by omega)]
theorem part_form (l : List S45) (hk : ∀ x ∈ l, okE x) (hc : checkE l ≠ 0) (i : Int) : Ev (fun k => expr_Part.f k l i) ([], 1) := by
  unfold expr_Part.f
  exact Ev.bind (check_ev _ hk) (Ev.congr (fun k => if_neg hc) (Ev.now _))
theorem part_arg (l : List S45) (hk : ∀ x ∈ l, okE x) (hc : checkE l = 0) (i : Int) (hi : i < 0 ∨ (l.length : Int) ≤ i) : Ev (fun k => expr_Part.f k l i) ([], 2) := by
  unfold expr_Part.f
  refine Ev.bind (check_ev _ hk) (Ev.congr (fun k => if_pos hc) ?_)
  by_cases h : i < 0
  · refine Ev.congr (fun k => if_pos h) (Ev.last fun k => ?_)
    rw [expr_Part.j0, if_pos rfl]
  · refine Ev.congr (fun k => if_neg h) (Ev.last fun k => ?_)
    rw [expr_Part.j0, if_pos (by simp; omega)]
theorem shift_zero (l : List S45) (h : ∀ x ∈ l, ∀ k ∈ x.f3, 0 ≤ k ∧ k < 64) : l.map (shiftZ 0) = l := by
  conv => rhs; rw [← List.map_id l]
  refine List.map_congr_left fun x hx => ?_
  show shiftZ 0 x = x
  unfold shiftZ
  have e : x.f3.map (fun k => wrap64 (k + 0)) = x.f3 := by
    conv => rhs; rw [← List.map_id x.f3]
    refine List.map_congr_left fun k hkk => ?_
    have := h x hx k hkk
    show wrap64 (k + 0) = k
    rw [w64 _ (by omega)]
    omega
  rw [e]
theorem shift_flat (m : T) (b : Nat) (h : m.size ≤ 64) (hb : b ≤ 64) : (m.flat 0).map (shiftZ (b : Int)) = m.flat b := by
  have e := flat_moved b m 0
  rw [Nat.zero_add] at e
  rw [e]
  refine List.map_congr_left fun x hx => ?_
  have hk := flat_in m 0 x hx
  unfold shiftZ moved
  congr 1
  refine List.map_congr_left fun k hkk => ?_
  have := hk k hkk
  exact w64 _ (by omega)
theorem mv_reloc (l : List S45) (h : ∀ x ∈ l, ∀ k ∈ x.f3, 0 ≤ k ∧ k < 64) (i d : Int) (hd : -64 ≤ d ∧ d ≤ 64) : l.map (fun x => (⟨x.f0, x.f1, x.f2, x.f3.map (mv i d)⟩ : S45)) = l.map (reloc i d) := by
  refine List.map_congr_left fun x hx => ?_
  unfold reloc
  congr 1
  refine List.map_congr_left fun k hkk => ?_
  have := h x hx k hkk
  unfold mv
  rw [w64 _ (by omega)]
theorem put_ev (t : T) (hok : t.ok = true) (hs : t.size ≤ 64) (hk : ∀ x ∈ t.flat 0, okE x) (m : T) (hmok : m.ok = true) (hms : m.size ≤ 64) (hmk : ∀ x ∈ m.flat 0, okE x) (s u : T) (b : Nat) (h : Rep t 0 s b m u) :
    Ev (fun k => expr_Put.f k (t.flat 0) ((b + s.size - 1 : Nat) : Int) (m.flat 0)) (if u.size ≤ 64 then (u.flat 0, 0) else ([], 10)) := by
  obtain ⟨pre, post, e1, e2, h1, h2⟩ := h.flat_
  rw [Nat.zero_add] at h1 h2
  have hsz := h.size
  have hlen := flat_len 0 t
  have hml := flat_len 0 m
  have hsp := size_pos s
  have hmp := size_pos m
  have hb := begin_ev (t.flat 0) (by omega) s.size s b pre post (Nat.le_refl _) e1 h1
  have hin : ∀ x ∈ t.flat 0, ∀ k ∈ x.f3, 0 ≤ k ∧ k < 64 := fun x hx k hkk => by have := flat_in t 0 x hx k hkk; omega
  refine put_go _ _ hk hmk (checkE_flat t hok hs) (checkE_flat m hmok hms) _ _ ?_
  simp only [expr_Put.j0]
  refine Ev.congr (fun k => if_neg (by simp)) ?_
  refine Ev.congr (fun k => if_neg (by omega)) ?_
  refine Ev.congr (fun k => if_neg (by omega)) ?_
  refine Ev.bind hb ?_
  have w1 : wrap64 (((b + s.size - 1 : Nat) : Int) + 1) = ((b + s.size : Nat) : Int) := by rw [w64 _ (by omega)]; omega
  have w2 : wrap64 (((b + s.size : Nat) : Int) - (b : Int)) = (s.size : Int) := by rw [w64 _ (by omega)]; omega
  have w3 : wrap64 (((m.flat 0).length : Int) - (s.size : Int)) = (m.size : Int) - s.size := by rw [w64 _ (by omega)]; omega
  have w4 : wrap64 (((t.flat 0).length : Int) + ((m.size : Int) - s.size)) = (u.size : Int) := by rw [w64 _ (by omega)]; omega
  rw [w1, w2, w3, w4]
  clear w1 w2 w3 w4 hb
  by_cases hu : u.size ≤ 64
  · rw [if_pos hu]
    refine Ev.congr (fun k => if_neg (by omega)) ?_
    refine Ev.congr (fun k => if_pos (by omega)) ?_
    refine Ev.congr (fun k => if_pos (by omega)) ?_
    have hpre : (t.flat 0).take b = pre := by rw [e1, ← h1, List.append_assoc, List.take_left]
    have hpost : (t.flat 0).drop (b + s.size) = post := by
      rw [e1]
      have : (pre ++ s.flat b).length = b + s.size := by rw [List.length_append, flat_len, h1]
      rw [← this, List.drop_left]
    have hpl : post.length ≤ 64 := by rw [← hpost, List.length_drop]; omega
    rw [Int.toNat_natCast, Int.toNat_natCast, hpre, hpost]
    have mpre : ∀ x ∈ pre, x ∈ t.flat 0 := fun x hx => by rw [e1]; simp [hx]
    have mpost : ∀ x ∈ post, x ∈ t.flat 0 := fun x hx => by rw [e1]; simp [hx]
    have j1 := joinZ_ev [] pre 0 (by simp; omega) (fun x hx => hk x (mpre x hx))
    rw [shift_zero pre (fun x hx => hin x (mpre x hx)), List.nil_append] at j1
    refine Ev.bind j1 ?_
    have j2 := joinZ_ev pre (m.flat 0) (b : Int) (by omega) hmk
    rw [shift_flat m b hms (by omega)] at j2
    refine Ev.bind j2 ?_
    refine Ev.congr (fun k => if_pos (by omega)) ?_
    refine Ev.congr (fun k => if_pos (by omega)) ?_
    refine Ev.bind (Ev.now _) ?_
    have hl := put_loop ((b + s.size - 1 : Nat) : Int) ((m.size : Int) - s.size) post (pre ++ m.flat b) (by rw [List.length_append, flat_len]; omega) (fun x hx => (hk x (mpost x hx)).kids) post.length 0 (Nat.le_refl _) (by omega)
    rw [List.take_zero, List.map_nil, List.append_nil, mv_reloc post (fun x hx => hin x (mpost x hx)) _ _ (by omega)] at hl
    have ei : (((b + s.size - 1 : Nat)) : Int) = (b : Int) + s.size - 1 := by omega
    rw [e2, ← ei]
    exact hl
  · rw [if_neg hu]
    exact Ev.congr (fun k => if_pos (by omega)) (Ev.now _)
theorem okI_of {n : Int} (h : -9223372036854775808 ≤ n ∧ n ≤ 9223372036854775807) : okI n := by
  simp [okI, Lit.wf]
  exact h
theorem okE_of {x y : S45} (h : okE x) (h0 : y.f0 = x.f0) (h1 : y.f1 = x.f1) (h2 : y.f2 = x.f2) (hl : y.f3.length = x.f3.length) (hk : ∀ k ∈ y.f3, -128 ≤ k ∧ k ≤ 128) : okE y := by
  obtain ⟨a, b, c, d, _⟩ := h
  dsimp only at a b c d
  refine ⟨?_, ?_, ?_, ?_, fun k hkk => okI_of ?_⟩
  · show okI y.f0
    rw [h0]; exact a
  · show okI y.f1
    rw [h1]; exact b
  · show okS y.f2
    rw [h2]; exact c
  · show y.f3.length * 8 ≤ _
    rw [hl]; exact d
  · have := hk k hkk
    omega
theorem ok_at {t s : T} {b : Nat} (h : At t 0 s b) (hs : t.size ≤ 64) (hk : ∀ x ∈ t.flat 0, okE x) : ∀ x ∈ s.flat 0, okE x := by
  obtain ⟨pre, post, e, h1, h2⟩ := h.split
  intro x hx
  have e2 := flat_moved b s 0
  rw [Nat.zero_add] at e2
  have hm : moved b x ∈ t.flat 0 := by
    rw [e, e2]
    simp only [List.mem_append, List.mem_map]
    exact Or.inl (Or.inr ⟨x, hx, rfl⟩)
  refine okE_of (hk _ hm) rfl rfl rfl (by simp [moved]) fun k hkk => ?_
  have := flat_in s 0 x hx k hkk
  omega
theorem ok_rep {t s m u : T} {b : Nat} (h : Rep t 0 s b m u) (hs : t.size ≤ 64) (hms : m.size ≤ 64) (hk : ∀ x ∈ t.flat 0, okE x) (hmk : ∀ x ∈ m.flat 0, okE x) : ∀ x ∈ u.flat 0, okE x := by
  obtain ⟨pre, post, e1, e2, h1, h2⟩ := h.flat_
  have hsz := h.size
  have hsp := size_pos s
  intro x hx
  have hin := flat_in u 0 x hx
  rw [e2] at hx
  rcases List.mem_append.1 hx with hx | hx
  · rcases List.mem_append.1 hx with hx | hx
    · exact hk x (by rw [e1]; simp [hx])
    · have e := flat_moved b m 0
      rw [Nat.zero_add] at e
      rw [e] at hx
      obtain ⟨y, hy, rfl⟩ := List.mem_map.1 hx
      refine okE_of (hmk y hy) rfl rfl rfl (by simp [moved]) fun k hkk => ?_
      have := hin k hkk
      omega
  · obtain ⟨y, hy, rfl⟩ := List.mem_map.1 hx
    refine okE_of (hk y (by rw [e1]; simp [hy])) rfl rfl rfl (by simp [reloc]) fun k hkk => ?_
    have := hin k hkk
    omega
end Go.Proofs.YtacjjfoelhckcaaDoor.PExprPlays

/- Plain laws: the names of an expression. -/
namespace Go.Proofs.YtacjjfoelhckcaaDoor.PExprPlays
open Go.RowKit Go.Sort Go.Lib Go.Proofs.YtacjjfoelhckcaaDoorW.PrintWords
set_option linter.unusedVariables false

def varsL (l : List S45) : List ByteArray := (l.filter fun x => x.f0 == 2).map (·.f2)
def namesL (l : List S45) : List ByteArray := compN (sortN (varsL l))
theorem compact_mem (d : Array ByteArray) : ∀ j, j < d.size → d[j]! ∈ compactUpTo d d.size := by
  intro j
  induction j with
  | zero =>
    intro h
    refine List.mem_map.2 ⟨0, List.mem_filter.2 ⟨List.mem_range.2 h, ?_⟩, rfl⟩
    simp [keeps]
  | succ j ih =>
    intro h
    by_cases hk : d[j + 1]! = d[j]!
    · rw [hk]; exact ih (by omega)
    · refine List.mem_map.2 ⟨j + 1, List.mem_filter.2 ⟨List.mem_range.2 h, ?_⟩, rfl⟩
      simp [keeps, hk]
theorem comp_mem {xs : List ByteArray} {x : ByteArray} (h : x ∈ xs) : x ∈ compN xs := by
  obtain ⟨j, hj, e⟩ := List.getElem_of_mem h
  have := compact_mem xs.toArray j (by simpa using hj)
  rw [getElem!_pos xs.toArray j (by simpa using hj)] at this
  simpa [compN, e] using this
theorem comp_len (xs : List ByteArray) : (compN xs).length ≤ xs.length := by
  rw [compN, compactUpTo, List.length_map]
  refine Nat.le_trans (List.length_filter_le _ _) ?_
  simp
theorem vars_len (l : List S45) : (varsL l).length ≤ l.length := by
  rw [varsL, List.length_map]; exact List.length_filter_le _ _
theorem names_len (l : List S45) : (namesL l).length ≤ l.length := by
  have h1 := comp_len (sortN (varsL l))
  rw [sortN_len] at h1
  exact Nat.le_trans h1 (vars_len l)
theorem vars_ok {l : List S45} (hf : ∀ x ∈ l, formN x = true) (hk : ∀ x ∈ l, okE x) : (varsL l).all okName = true := by
  refine List.all_eq_true.2 fun s hs => ?_
  obtain ⟨x, hx, rfl⟩ := List.mem_map.1 hs
  obtain ⟨hm, h2⟩ := List.mem_filter.1 hx
  have h2' : x.f0 = 2 := by simpa using h2
  have h := hf x hm
  have hn : nameB x.f2 = true := by
    unfold formN formB at h
    revert h
    cases nameB x.f2 <;> simp [h2']
  rw [okName, hn, Bool.true_and, decide_eq_true_eq]
  exact (hk x hm).2.2.1
theorem form_all : ∀ (r : List S45) (st : List Int) (i : Nat), checkFrom st i r = 0 → ∀ x ∈ r, formN x = true
  | [], _, _, _, x, hx => by cases hx
  | y :: r, st, i, h, x, hx => by
    rw [checkFrom] at h
    split at h
    · rename_i hf
      rcases List.mem_cons.1 hx with rfl | hx
      · rw [fitsN, Bool.and_eq_true, Bool.and_eq_true] at hf
        exact hf.1.1
      · exact form_all r _ _ h x hx
    · cases h
theorem vars_ev (l : List S45) (hk : ∀ x ∈ l, okE x) : Ev (fun k => expr_Vars.f k l) (if checkE l = 0 then (namesL l, 0) else ([], 1)) := by
  unfold expr_Vars.f
  refine Ev.bind (check_ev l hk) ?_
  by_cases hc : checkE l = 0
  · rw [if_pos hc]
    refine Ev.congr (fun k => if_pos hc) ?_
    have hl : l.length ≤ 64 ∧ checkFrom [] 0 l = 0 := by
      unfold checkE at hc
      split at hc
      · cases hc
      · rename_i h; exact ⟨by omega, hc⟩
    have hok := vars_ok (form_all l [] 0 hl.2) hk
    have hvl := vars_len l
    have loop : ∀ (n i : Nat), l.length - i ≤ n → i ≤ l.length → Ev (fun k => expr_Vars.l0 k (varsL (l.take i)) l (l.length : Int) (i : Int)) (namesL l, 0) := by
      have fin : ∀ i : Nat, i ≤ l.length → l.length ≤ i → Ev (fun k => expr_Vars.l0 k (varsL (l.take i)) l (l.length : Int) (i : Int)) (namesL l, 0) := by
        intro i h1 h2
        refine Ev.last fun k => ?_
        rw [expr_Vars.l0, if_neg (by omega), List.take_of_length_le (by omega), vars_tail.f, if_pos ⟨hok, by omega⟩]
        rfl
      intro n
      induction n with
      | zero => intro i h1 h2; exact fin i h2 (by omega)
      | succ n ih =>
        intro i h1 h2
        by_cases hi : i < l.length
        · have ea : rd_T45 l (i : Int) = l[i] := getD_lt l i _ hi
          have go := ih (i + 1) (by omega) (by omega)
          have hti := vars_len (l.take i)
          rw [List.length_take] at hti
          by_cases h3 : (l[i]).f0 = 2
          · have e : varsL (l.take (i + 1)) = varsL (l.take i) ++ [(l[i]).f2] := by
              rw [List.take_succ_eq_append_getElem hi, varsL, List.filter_append, List.map_append]
              congr 1
              simp [h3]
            rw [e] at go
            refine Ev.step (fun k => ?_) go
            rw [expr_Vars.l0, if_pos (by omega), if_pos (by omega), if_pos (by omega), ea, if_pos h3, if_pos (by omega), w64 _ (by omega)]
            rfl
          · have e : varsL (l.take (i + 1)) = varsL (l.take i) := by
              rw [List.take_succ_eq_append_getElem hi, varsL, List.filter_append, List.map_append]
              have : List.filter (fun x => x.f0 == 2) [l[i]] = [] := by simp [h3]
              rw [this, List.map_nil, List.append_nil]
              rfl
            rw [e] at go
            refine Ev.step (fun k => ?_) go
            rw [expr_Vars.l0, if_pos (by omega), if_pos (by omega), if_pos (by omega), ea, if_neg h3, w64 _ (by omega)]
            rfl
        · exact fin i h2 (by omega)
    exact loop _ 0 (Nat.le_refl _) (by omega)
  · rw [if_neg hc]
    exact Ev.congr (fun k => if_neg hc) (Ev.now _)
end Go.Proofs.YtacjjfoelhckcaaDoor.PExprPlays

/- Plain laws over trees: where kids stand; walking. -/
namespace Go.Proofs.YtacjjfoelhckcaaDoor.PExprPlays
open Go.RowKit Go.Proofs.YtacjjfoelhckcaaDoorW.PrintWords
set_option linter.unusedVariables false

theorem seg_kid {l pre post : List S45} {b : Nat} {op n : Int} {nm : ByteArray} {ts : List T} (e : l = pre ++ (T.mk op n nm ts).flat b ++ post) (hp : pre.length = b) (j : Nat) (hj : j < ts.length) :
    ∃ (pre' post' : List S45), l = pre' ++ (ts[j]).flat (b + sizeL (ts.take j)) ++ post' ∧ pre'.length = b + sizeL (ts.take j) ∧ (roots b ts)[j]? = some ((b + sizeL (ts.take j) + (ts[j]).size - 1 : Nat) : Int) := by
  have e1 : ts = ts.take j ++ ts[j] :: ts.drop (j + 1) := by rw [← List.drop_eq_getElem_cons hj, List.take_append_drop]
  refine ⟨pre ++ flatL b (ts.take j), flatL (b + sizeL (ts.take j) + (ts[j]).size) (ts.drop (j + 1)) ++ [⟨op, n, nm, roots b ts⟩] ++ post, ?_, ?_, ?_⟩
  · rw [e, T.flat]
    have e2 : flatL b ts = flatL b (ts.take j) ++ ((ts[j]).flat (b + sizeL (ts.take j)) ++ flatL (b + sizeL (ts.take j) + (ts[j]).size) (ts.drop (j + 1))) := by
      conv => lhs; rw [e1]
      rw [flatL_app, flatL]
    rw [e2]
    simp only [List.append_assoc]
  · rw [List.length_append, flatL_len, hp]
  · have e2 : roots b ts = roots b (ts.take j) ++ (((b + sizeL (ts.take j) + (ts[j]).size - 1 : Nat) : Int) :: roots (b + sizeL (ts.take j) + (ts[j]).size) (ts.drop (j + 1))) := by
      conv => lhs; rw [e1]
      rw [roots_app, roots]
    have hl : (roots b (ts.take j)).length = j := by rw [roots_len, List.length_take]; omega
    rw [e2, List.getElem?_append_right (by omega), hl, Nat.sub_self]
    rfl
theorem rd_root {ts : List T} {b j : Nat} {v : Int} (h : (roots b ts)[j]? = some v) : rd (roots b ts) (j : Int) = v := by
  show (roots b ts).getD j 0 = v
  rw [List.getD_eq_getElem?_getD, h]; rfl
theorem size_take (ts : List T) (j : Nat) (hj : j < ts.length) : sizeL (ts.take j) + (ts[j]).size ≤ sizeL ts := by
  have e1 : ts = ts.take j ++ ts[j] :: ts.drop (j + 1) := by rw [← List.drop_eq_getElem_cons hj, List.take_append_drop]
  have : sizeL ts = sizeL (ts.take j) + ((ts[j]).size + sizeL (ts.drop (j + 1))) := by
    conv => lhs; rw [e1]
    rw [sizeL_app, sizeL]
  omega
theorem walk_tree (l : List S45) (hl : l.length ≤ 64) (hk : ∀ x ∈ l, okE x) : ∀ (N : Nat) (t : T) (b : Nat) (pre post : List S45), t.size ≤ N → l = pre ++ t.flat b ++ post → pre.length = b → Wk l ((b + t.size - 1 : Nat) : Int) ((b : Int) - 1) := by
  intro N
  induction N with
  | zero => intro t b pre post h; have := size_pos t; omega
  | succ N ih =>
    intro t b pre post hN e hp
    obtain ⟨hlt, hroot⟩ := seg_root e hp
    cases t with | mk op n nm ts =>
    have est : (T.mk op n nm ts).size = sizeL ts + 1 := by rw [T.size]
    have hrl := roots_len ts b
    have hkid : (l[b + (T.mk op n nm ts).size - 1]).f3.length ≤ 17592186043904 := (hk _ (List.getElem_mem hlt)).kids
    refine wk_node l hl _ hlt hkid ?_
    have ef : (l[b + (T.mk op n nm ts).size - 1]).f3 = roots b ts := by rw [hroot]; rfl
    rw [ef] at hkid ⊢
    have loop : ∀ (j : Nat), j ≤ ts.length → Ev (fun k => sorrelref02_walk.l0 k l ((b + sizeL (ts.take j) : Nat) - 1 : Int) (roots b ts) ((j : Int) - 1)) ((b : Int) - 1) := by
      intro j
      induction j with
      | zero =>
        intro _
        have : sizeL (ts.take 0) = 0 := rfl
        rw [this]
        exact kid_end l _ _ _ (by omega)
      | succ j ihj =>
        intro hj
        obtain ⟨p1, q1, e1, l1, r1⟩ := seg_kid e hp j hj
        have hsz := size_take ts j hj
        have hpj := size_pos ts[j]
        have hjr : j < (roots b ts).length := by omega
        have er : (roots b ts)[j] = ((b + sizeL (ts.take j) + (ts[j]).size - 1 : Nat) : Int) := by
          rw [List.getElem?_eq_getElem hjr] at r1
          exact Option.some.inj r1
        have hw := ih ts[j] _ p1 q1 (by omega) e1 l1
        rw [← er] at hw
        have et : sizeL (ts.take (j + 1)) = sizeL (ts.take j) + (ts[j]).size := by
          rw [List.take_succ_eq_append_getElem hj, sizeL_app, sizeL, sizeL]; rfl
        have := kid_on l (roots b ts) hkid j hjr hw (by omega) (ihj (by omega))
        have ee : (((b + sizeL (ts.take (j + 1)) : Nat) : Int) - 1) = (roots b ts)[j] := by rw [er, et]; omega
        have ej : ((j + 1 : Nat) : Int) - 1 = (j : Int) := by omega
        rw [ee, ej]
        exact this
    have := loop ts.length (Nat.le_refl _)
    rw [List.take_length] at this
    have e1 : (((b + (T.mk op n nm ts).size - 1 : Nat) : Int) - 1) = ((b + sizeL ts : Nat) : Int) - 1 := by omega
    rw [e1, hrl]
    exact this
mutual
theorem flat_kids : ∀ (t : T) (c : Nat), ∀ x ∈ t.flat c, x.f3.length ≤ t.size
  | .mk op n nm ts, c, x, hx => by
    have hl := len_le_size ts
    rw [T.flat] at hx
    rw [T.size]
    rcases List.mem_append.1 hx with hx | hx
    · have := flatL_kids ts c x hx
      omega
    · obtain rfl := List.mem_singleton.1 hx
      show (roots c ts).length ≤ _
      rw [roots_len]; omega
theorem flatL_kids : ∀ (ts : List T) (c : Nat), ∀ x ∈ flatL c ts, x.f3.length ≤ sizeL ts
  | [], c, x, hx => by cases hx
  | t :: ts, c, x, hx => by
    rw [flatL] at hx
    rw [sizeL]
    rcases List.mem_append.1 hx with hx | hx
    · have := flat_kids t c x hx
      omega
    · have := flatL_kids ts (c + t.size) x hx
      omega
end
end Go.Proofs.YtacjjfoelhckcaaDoor.PExprPlays

/- Plain laws: the reference's texts behind one another. -/
namespace Go.Proofs.YtacjjfoelhckcaaDoor.PExprPlays
open Go.RowKit Go.Proofs.YtacjjfoelhckcaaDoorW.PrintWords
set_option linter.unusedVariables false

def shiftN (b : Nat) (x : S45) : S45 := ⟨x.f0, x.f1, x.f2, x.f3.map fun k => wrap64 (k + b)⟩
theorem behind_ev (x0 l : List S45) (h0 : x0.length + l.length ≤ 2513169434843) (hk : ∀ x ∈ l, x.f3.length ≤ 17592186043904) : Ev (fun k => sorrelref02_behind.f k x0 l) (x0 ++ l.map (shiftN x0.length)) := by
  generalize hb : x0.length = b at *
  have inner : ∀ (xs : List S45) (j : Nat) (x : S45) (hx : x.f3.length ≤ 17592186043904) (v : List S45) (hxs : xs.length < 2513169434916),
      Ev (fun k => sorrelref02_behind.l0 k (xs ++ [shiftN b x]) l b (wrap64 ((j : Int) + 1))) v → ∀ (n i : Nat), x.f3.length - i ≤ n → i ≤ x.f3.length →
      Ev (fun k => sorrelref02_behind.l1 k xs l b j ((x.f3.take i).map (fun k => wrap64 (k + b)) ++ List.replicate (x.f3.length - i) 0) (i : Int) x.f0 x.f1 x.f2 x.f3) v := by
    intro xs j x hx v hxs hv
    have fin : ∀ i : Nat, i ≤ x.f3.length → x.f3.length ≤ i → Ev (fun k => sorrelref02_behind.l1 k xs l b j ((x.f3.take i).map (fun k => wrap64 (k + b)) ++ List.replicate (x.f3.length - i) 0) (i : Int) x.f0 x.f1 x.f2 x.f3) v := by
      intro i h1 h2
      refine Ev.step (fun k => ?_) hv
      rw [sorrelref02_behind.l1, if_neg (by omega), if_pos hxs, List.take_of_length_le (by omega), show x.f3.length - i = 0 by omega]
      simp [shiftN]
    intro n
    induction n with
    | zero => intro i h1 h2; exact fin i h2 (by omega)
    | succ n ih =>
      intro i h1 h2
      by_cases hi : i < x.f3.length
      · have ea : rd x.f3 (i : Int) = x.f3[i] := getD_lt x.f3 i 0 hi
        refine Ev.step (fun k => ?_) (ih (i + 1) (by omega) (by omega))
        rw [sorrelref02_behind.l1, if_pos (by omega), if_pos (by omega), if_pos (by simp; omega), ea, w64 ((i : Int) + 1) (by omega), Int.toNat_natCast, set_step x.f3 (fun k => wrap64 (k + b)) i hi]; rfl
      · exact fin i h2 (by omega)
  have loop : ∀ (n i : Nat), l.length - i ≤ n → i ≤ l.length → Ev (fun k => sorrelref02_behind.l0 k (x0 ++ (l.take i).map (shiftN b)) l b (i : Int)) (x0 ++ l.map (shiftN b)) := by
    have fin : ∀ i : Nat, i ≤ l.length → l.length ≤ i → Ev (fun k => sorrelref02_behind.l0 k (x0 ++ (l.take i).map (shiftN b)) l b (i : Int)) (x0 ++ l.map (shiftN b)) := by
      intro i h1 h2
      refine Ev.last fun k => ?_
      rw [sorrelref02_behind.l0, if_neg (by omega), List.take_of_length_le (by omega)]
    intro n
    induction n with
    | zero => intro i h1 h2; exact fin i h2 (by omega)
    | succ n ih =>
      intro i h1 h2
      by_cases hi : i < l.length
      · have ea : rd_T45 l (i : Int) = l[i] := getD_lt l i _ hi
        have hx := hk _ (List.getElem_mem hi)
        have go := ih (i + 1) (by omega) (by omega)
        rw [List.take_succ_eq_append_getElem hi, List.map_append, ← List.append_assoc] at go
        have := inner (x0 ++ (l.take i).map (shiftN b)) i l[i] hx (x0 ++ l.map (shiftN b)) (by simp; omega) (by rw [w64 _ (by omega)]; exact go) (l[i]).f3.length 0 (by omega) (by omega)
        refine Ev.step (fun k => ?_) this
        rw [sorrelref02_behind.l0, if_pos (by omega), if_pos (by omega), ea, if_pos (by omega), if_pos (by omega)]
        simp
      · exact fin i h2 (by omega)
  unfold sorrelref02_behind.f
  rw [hb]
  have := loop _ 0 (Nat.le_refl _) (by omega)
  rw [List.take_zero, List.map_nil, List.append_nil] at this
  exact this
end Go.Proofs.YtacjjfoelhckcaaDoor.PExprPlays

/- Plain laws over trees: how deep they are, by the program and by the reference. -/
namespace Go.Proofs.YtacjjfoelhckcaaDoor.PExprPlays
open Go.RowKit Go.Proofs.YtacjjfoelhckcaaDoorW.PrintWords Go.Proofs.YtacjjfoelhckcaaDoorW.PrintMore
set_option linter.unusedVariables false

mutual
def T.depth : T → Int
  | .mk _ _ _ ts => depthM 0 ts + 1
def depthM : Int → List T → Int
  | a, [] => a
  | a, t :: ts => depthM (mx a (T.depth t)) ts
end
mutual
/-- How deep each node is, in postfix. -/
def T.deeps : T → List Int
  | .mk _ _ _ ts => deepsL ts ++ [depthM 0 ts + 1]
def deepsL : List T → List Int
  | [] => []
  | t :: ts => T.deeps t ++ deepsL ts
end
mutual
theorem deeps_len : ∀ t : T, (T.deeps t).length = t.size
  | .mk op n nm ts => by rw [T.deeps, List.length_append, deepsL_len ts, T.size]; rfl
theorem deepsL_len : ∀ ts : List T, (deepsL ts).length = sizeL ts
  | [] => rfl
  | t :: ts => by rw [deepsL, List.length_append, deeps_len t, deepsL_len ts, sizeL]
end
theorem mx_le {a b c : Int} (h1 : a ≤ c) (h2 : b ≤ c) : mx a b ≤ c := by unfold mx; split <;> assumption
theorem le_mx (a b : Int) : a ≤ mx a b := by unfold mx; split <;> omega
mutual
theorem depth_bounds : ∀ t : T, 1 ≤ T.depth t ∧ T.depth t ≤ t.size
  | .mk op n nm ts => by
    have := depthM_bounds ts 0 (by omega)
    rw [T.depth, T.size]
    omega
theorem depthM_bounds : ∀ (ts : List T) (a : Int), 0 ≤ a → a ≤ depthM a ts ∧ depthM a ts ≤ a + sizeL ts
  | [], a, h => by rw [depthM, sizeL]; omega
  | t :: ts, a, h => by
    have h1 := depth_bounds t
    have h2 := le_mx a (T.depth t)
    have h3 : mx a (T.depth t) ≤ a + t.size := mx_le (by omega) (by omega)
    have h4 := depthM_bounds ts (mx a (T.depth t)) (by omega)
    rw [depthM, sizeL]
    omega
end
theorem depthM_app : ∀ (xs ys : List T) (a : Int), depthM a (xs ++ ys) = depthM (depthM a xs) ys
  | [], ys, a => by rw [List.nil_append, depthM]
  | x :: xs, ys, a => by rw [List.cons_append, depthM, depthM, depthM_app xs ys]
theorem depthM_take (ts : List T) (j : Nat) (hj : j < ts.length) : depthM 0 (ts.take (j + 1)) = mx (depthM 0 (ts.take j)) (T.depth ts[j]) := by
  rw [List.take_succ_eq_append_getElem hj, depthM_app, depthM, depthM]
theorem deepsL_app (xs ys : List T) : deepsL (xs ++ ys) = deepsL xs ++ deepsL ys := by
  induction xs with
  | nil => rw [List.nil_append, deepsL, List.nil_append]
  | cons x xs ih => rw [List.cons_append, deepsL, deepsL, ih, List.append_assoc]
theorem deeps_last (t : T) : (T.deeps t)[t.size - 1]? = some (T.depth t) := by
  cases t with | mk op n nm ts =>
  rw [T.deeps, T.depth, T.size]
  have h := deepsL_len ts
  rw [List.getElem?_append_right (by omega), h]
  simp
theorem rd_deep (done : List Int) (ts : List T) (more : List Int) (c j : Nat) (hc : done.length = c) (hj : j < ts.length) : rd (done ++ deepsL ts ++ more) ((c + sizeL (ts.take j) + (ts[j]).size - 1 : Nat) : Int) = T.depth ts[j] := by
  have e1 : ts = ts.take j ++ ts[j] :: ts.drop (j + 1) := by rw [← List.drop_eq_getElem_cons hj, List.take_append_drop]
  have e2 : deepsL ts = deepsL (ts.take j) ++ (T.deeps ts[j] ++ deepsL (ts.drop (j + 1))) := by
    conv => lhs; rw [e1]
    rw [deepsL_app, deepsL]
  have hp := size_pos ts[j]
  have hl := deepsL_len (ts.take j)
  have hd := deeps_len ts[j]
  show (done ++ deepsL ts ++ more).getD (c + sizeL (ts.take j) + (ts[j]).size - 1) 0 = _
  rw [List.getD_eq_getElem?_getD, e2, List.append_assoc, List.append_assoc, List.append_assoc, List.getElem?_append_right (by omega), List.getElem?_append_right (by omega), List.getElem?_append_left (by omega)]
  rw [show c + sizeL (ts.take j) + (ts[j]).size - 1 - done.length - (deepsL (ts.take j)).length = (ts[j]).size - 1 by omega, deeps_last]
  rfl
theorem set_mid (a : List Int) (x y : Int) (zs : List Int) (i : Nat) (h : a.length = i) : (a ++ x :: zs).set i y = a ++ y :: zs := by
  rw [List.set_append_right _ _ (by omega), show i - a.length = 0 by omega, List.set_cons_zero]
theorem rd_mid (a : List Int) (x : Int) (zs : List Int) (i : Nat) (h : a.length = i) : rd (a ++ x :: zs) (i : Int) = x := by
  show (a ++ x :: zs).getD i 0 = x
  rw [List.getD_eq_getElem?_getD, List.getElem?_append_right (by omega), show i - a.length = 0 by omega]
  rfl
theorem depth_node (l : List S45) (hl : l.length ≤ 64) (op n : Int) (nm : ByteArray) (ts : List T) (c : Nat) (done zs : List Int) (hc : done.length = c) (hi : c + sizeL ts < l.length) (hx : rd_T45 l ((c + sizeL ts : Nat) : Int) = ⟨op, n, nm, roots c ts⟩) (hz : c + sizeL ts + 1 + zs.length = l.length) (v : Int × Int)
    (hv : Ev (fun k => expr_Depth.l0 k l (done ++ deepsL ts ++ (depthM 0 ts + 1) :: zs) l (l.length : Int) ((c + sizeL ts + 1 : Nat) : Int)) v) :
    Ev (fun k => expr_Depth.l0 k l (done ++ deepsL ts ++ 0 :: zs) l (l.length : Int) ((c + sizeL ts : Nat) : Int)) v := by
  have hrl := roots_len ts c
  have hdl : (done ++ deepsL ts).length = c + sizeL ts := by rw [List.length_append, deepsL_len, hc]
  have hll : ∀ x : Int, (done ++ deepsL ts ++ x :: zs).length = l.length := fun x => by rw [List.length_append, hdl, List.length_cons]; omega
  have hb := depthM_bounds ts 0 (by omega)
  have hts := len_le_size ts
  have loop : ∀ (q j : Nat), ts.length - j ≤ q → j ≤ ts.length → Ev (fun k => expr_Depth.l1 k l (done ++ deepsL ts ++ depthM 0 (ts.take j) :: zs) ((c + sizeL ts : Nat) : Int) l (l.length : Int) ((c + sizeL ts : Nat) : Int) (roots c ts) ((roots c ts).length : Int) (j : Int)) v := by
    have fin : ∀ j : Nat, ts.length ≤ j → Ev (fun k => expr_Depth.l1 k l (done ++ deepsL ts ++ depthM 0 (ts.take j) :: zs) ((c + sizeL ts : Nat) : Int) l (l.length : Int) ((c + sizeL ts : Nat) : Int) (roots c ts) ((roots c ts).length : Int) (j : Int)) v := by
      intro j hj
      rw [List.take_of_length_le hj]
      have h1 := hll (depthM 0 ts)
      have e4 : wrap64 (((c + sizeL ts : Nat) : Int) + 1) = ((c + sizeL ts + 1 : Nat) : Int) := by clear hx hv; rw [w64 _ (by omega)]; omega
      have f1 : ¬ ((j : Int) < ((roots c ts).length : Int)) := by clear hx hv e4; omega
      have f2 : (0 : Int) ≤ ((c + sizeL ts : Nat) : Int) := by clear hx hv e4; omega
      have f3 : ((c + sizeL ts : Nat) : Int) < ((done ++ deepsL ts ++ depthM 0 ts :: zs).length : Int) := by clear hx hv e4 f2; rw [h1]; omega
      have e3 : wrap64 (depthM 0 ts + 1) = depthM 0 ts + 1 := w64 _ (by clear hx hv e4 f1 f2 f3; omega)
      have e1 := rd_mid (done ++ deepsL ts) (depthM 0 ts) zs _ hdl
      have e2 := set_mid (done ++ deepsL ts) (depthM 0 ts) (depthM 0 ts + 1) zs _ hdl
      refine Ev.step (fun k => ?_) hv
      rw [expr_Depth.l1, if_neg f1, if_pos f2, if_pos f3, e1, e3, e4, Int.toNat_natCast, e2]
    intro q
    induction q with
    | zero => intro j h1 h2; exact fin j (by omega)
    | succ q ih =>
      intro j h1 h2
      by_cases hj : j < ts.length
      · have go := ih (j + 1) (by omega) (by omega)
        have hsz := size_take ts j hj
        have hpj := size_pos ts[j]
        have hr : rd (roots c ts) (j : Int) = ((c + sizeL (ts.take j) + (ts[j]).size - 1 : Nat) : Int) := by
          have e1 : ts = ts.take j ++ ts[j] :: ts.drop (j + 1) := by rw [← List.drop_eq_getElem_cons hj, List.take_append_drop]
          have e2 : roots c ts = roots c (ts.take j) ++ (((c + sizeL (ts.take j) + (ts[j]).size - 1 : Nat) : Int) :: roots (c + sizeL (ts.take j) + (ts[j]).size) (ts.drop (j + 1))) := by
            conv => lhs; rw [e1]
            rw [roots_app, roots]
          have hl2 : (roots c (ts.take j)).length = j := by rw [roots_len, List.length_take]; omega
          show (roots c ts).getD j 0 = _
          rw [List.getD_eq_getElem?_getD, e2, List.getElem?_append_right (by omega), hl2, Nat.sub_self]
          rfl
        have hl1 := hll (depthM 0 (ts.take j))
        clear hv hx ih
        have f1 : (j : Int) < ((roots c ts).length : Int) := by clear hr hl1; omega
        have f2 : (0 : Int) ≤ (j : Int) := by clear hr hl1; omega
        have f3 : (0 : Int) ≤ ((c + sizeL ts : Nat) : Int) := by clear hr hl1; omega
        have f4 : ((c + sizeL ts : Nat) : Int) < ((done ++ deepsL ts ++ depthM 0 (ts.take j) :: zs).length : Int) := by rw [hl1]; clear hr hl1; omega
        have f5 : (0 : Int) ≤ ((c + sizeL (ts.take j) + (ts[j]).size - 1 : Nat) : Int) := by clear hr hl1; omega
        have f6 : ((c + sizeL (ts.take j) + (ts[j]).size - 1 : Nat) : Int) < ((done ++ deepsL ts ++ depthM 0 (ts.take j) :: zs).length : Int) := by rw [hl1]; clear hr hl1 f1 f2 f3 f4 f5; omega
        have e7 : wrap64 ((j : Int) + 1) = ((j + 1 : Nat) : Int) := by clear hr hl1 f3 f4 f5 f6; rw [w64 _ (by omega)]; rfl
        have e1 := rd_mid (done ++ deepsL ts) (depthM 0 (ts.take j)) zs _ hdl
        have e2 := set_mid (done ++ deepsL ts) (depthM 0 (ts.take j)) (depthM 0 (ts.take (j + 1))) zs _ hdl
        have e3 := rd_deep done ts (depthM 0 (ts.take j) :: zs) c j hc hj
        refine Ev.step (fun k => ?_) go
        rw [expr_Depth.l1, if_pos f1, if_pos f2, if_pos f1, if_pos f3, if_pos f4, hr, if_pos f5, if_pos f6, e1, e3, ← depthM_take ts j hj, Int.toNat_natCast, e2, e7]
      · exact fin j (by omega)
  have start := loop _ 0 (Nat.le_refl _) (Nat.zero_le _)
  rw [List.take_zero, depthM] at start
  have e5 : ((⟨op, n, nm, roots c ts⟩ : S45)).f3 = roots c ts := rfl
  refine Ev.step (fun k => ?_) start
  rw [expr_Depth.l0, if_pos (by omega), if_pos (by omega), if_pos (by omega), hx]
  rfl
mutual
theorem depth_flat (l : List S45) (hl : l.length ≤ 64) (v : Int × Int) : ∀ (t : T) (pre post : List S45) (c : Nat) (done zs : List Int), l = pre ++ t.flat c ++ post → pre.length = c → done.length = c → c + t.size + zs.length = l.length →
    Ev (fun k => expr_Depth.l0 k l (done ++ T.deeps t ++ zs) l (l.length : Int) ((c + t.size : Nat) : Int)) v → Ev (fun k => expr_Depth.l0 k l (done ++ List.replicate t.size 0 ++ zs) l (l.length : Int) (c : Int)) v
  | .mk op n nm ts, pre, post, c, done, zs, e, hp, hc, hz, hv => by
    have hsz : (T.mk op n nm ts).size = sizeL ts + 1 := by rw [T.size]
    obtain ⟨hlt, hroot⟩ := seg_root e hp
    have hx : rd_T45 l ((c + sizeL ts : Nat) : Int) = ⟨op, n, nm, roots c ts⟩ := by
      have e1 : ((c + sizeL ts : Nat) : Int) = ((c + (T.mk op n nm ts).size - 1 : Nat) : Int) := by omega
      rw [e1]
      exact (getD_lt l _ _ hlt).trans hroot
    rw [T.deeps, hsz, ← List.append_assoc, List.append_assoc (done ++ deepsL ts), List.singleton_append] at hv
    have h1 := depth_node l hl op n nm ts c done zs hc (by omega) hx (by omega) v (by rw [show c + sizeL ts + 1 = c + (sizeL ts + 1) by omega]; exact hv)
    have e2 : l = pre ++ flatL c ts ++ ([⟨op, n, nm, roots c ts⟩] ++ post) := by rw [e, T.flat]; simp only [List.append_assoc]
    have h2 := depth_flatL l hl v ts pre _ c done (0 :: zs) e2 hp hc (by rw [List.length_cons]; omega) h1
    rw [hsz]
    have e3 : List.replicate (sizeL ts + 1) (0 : Int) = List.replicate (sizeL ts) 0 ++ [0] := by rw [List.replicate_succ']
    rw [e3, ← List.append_assoc, List.append_assoc (done ++ List.replicate (sizeL ts) 0), List.singleton_append]
    exact h2
theorem depth_flatL (l : List S45) (hl : l.length ≤ 64) (v : Int × Int) : ∀ (ts : List T) (pre post : List S45) (c : Nat) (done zs : List Int), l = pre ++ flatL c ts ++ post → pre.length = c → done.length = c → c + sizeL ts + zs.length = l.length →
    Ev (fun k => expr_Depth.l0 k l (done ++ deepsL ts ++ zs) l (l.length : Int) ((c + sizeL ts : Nat) : Int)) v → Ev (fun k => expr_Depth.l0 k l (done ++ List.replicate (sizeL ts) 0 ++ zs) l (l.length : Int) (c : Int)) v
  | [], pre, post, c, done, zs, e, hp, hc, hz, hv => by
    rw [deepsL, sizeL] at hv
    rw [sizeL]
    exact hv
  | t :: ts, pre, post, c, done, zs, e, hp, hc, hz, hv => by
    rw [sizeL] at hz hv ⊢
    rw [deepsL, ← List.append_assoc] at hv
    have e1 : l = (pre ++ t.flat c) ++ flatL (c + t.size) ts ++ post := by rw [e, flatL]; simp only [List.append_assoc]
    have e2 : l = pre ++ t.flat c ++ (flatL (c + t.size) ts ++ post) := by rw [e, flatL]; simp only [List.append_assoc]
    have h1 := depth_flatL l hl v ts (pre ++ t.flat c) post (c + t.size) (done ++ T.deeps t) zs e1 (by rw [List.length_append, flat_len, hp]) (by rw [List.length_append, deeps_len, hc]) (by omega) (by rw [show c + t.size + sizeL ts = c + (t.size + sizeL ts) by omega]; exact hv)
    have h2 := depth_flat l hl v t pre _ c done (List.replicate (sizeL ts) 0 ++ zs) e2 hp hc (by rw [List.length_append, List.length_replicate]; omega) (by rw [← List.append_assoc]; exact h1)
    have e3 : List.replicate (t.size + sizeL ts) (0 : Int) = List.replicate t.size 0 ++ List.replicate (sizeL ts) 0 := by rw [List.replicate_append_replicate]
    rw [e3, ← List.append_assoc, List.append_assoc (done ++ List.replicate t.size 0)]
    exact h2
end
theorem depth_ev (t : T) (hok : t.ok = true) (hs : t.size ≤ 64) (hk : ∀ x ∈ t.flat 0, okE x) : Ev (fun k => expr_Depth.f k (t.flat 0)) (T.depth t, 0) := by
  have hl := flat_len 0 t
  have hp := size_pos t
  have hd := deeps_len t
  unfold expr_Depth.f
  refine Ev.bind (check_ev _ hk) (Ev.congr (fun k => if_pos (checkE_flat t hok hs)) (Ev.congr (fun k => if_pos (by omega)) (Ev.congr (fun k => if_pos (by omega)) ?_)))
  have e1 : List.replicate (((t.flat 0).length : Int)).toNat (0 : Int) = [] ++ List.replicate t.size 0 ++ [] := by rw [Int.toNat_natCast, hl]; simp
  rw [e1]
  refine depth_flat (t.flat 0) (by omega) _ t [] [] 0 [] [] (by simp) rfl rfl (by simp [hl]) ?_
  refine Ev.last fun k => ?_
  have e2 : wrap64 (((t.flat 0).length : Int) - 1) = ((t.size - 1 : Nat) : Int) := by rw [w64 _ (by omega)]; omega
  have e3 : rd ([] ++ T.deeps t ++ []) ((t.size - 1 : Nat) : Int) = T.depth t := by
    show ([] ++ T.deeps t ++ []).getD (t.size - 1) 0 = _
    rw [List.getD_eq_getElem?_getD, List.nil_append, List.append_nil, deeps_last]
    rfl
  rw [expr_Depth.l0, if_neg (by omega), e2, if_pos (by omega), if_pos (by simp [hd]; omega), e3]
theorem depth_bad (l : List S45) (hk : ∀ x ∈ l, okE x) (hc : checkE l ≠ 0) : Ev (fun k => expr_Depth.f k l) (0, 1) := by
  unfold expr_Depth.f
  exact Ev.bind (check_ev _ hk) (Ev.congr (fun k => if_neg hc) (Ev.now _))
theorem refDepth_at (l : List S45) (hl : l.length ≤ 64) : ∀ (N : Nat) (t : T) (b : Nat) (pre post : List S45), t.size ≤ N → l = pre ++ t.flat b ++ post → pre.length = b → Ev (fun k => sorrelref02_depth.f k l ((b + t.size - 1 : Nat) : Int)) (T.depth t) := by
  intro N
  induction N with
  | zero => intro t b pre post h; have := size_pos t; omega
  | succ N ih =>
    intro t b pre post hN e hp
    obtain ⟨hlt, hroot⟩ := seg_root e hp
    have ea : rd_T45 l ((b + t.size - 1 : Nat) : Int) = rootN b t := (getD_lt l _ _ hlt).trans hroot
    cases t with | mk op n nm ts =>
    have est : (T.mk op n nm ts).size = sizeL ts + 1 := by rw [T.size]
    have hrl := roots_len ts b
    have ef : (rootN b (.mk op n nm ts)).f3 = roots b ts := rfl
    have hts := len_le_size ts
    have hb := depthM_bounds ts 0 (by omega)
    have loop : ∀ (q j : Nat), ts.length - j ≤ q → j ≤ ts.length → Ev (fun k => sorrelref02_depth.l0 k l ((b + (T.mk op n nm ts).size - 1 : Nat) : Int) (depthM 0 (ts.take j)) (j : Int)) (T.depth (.mk op n nm ts)) := by
      have fin : ∀ j : Nat, ts.length ≤ j → Ev (fun k => sorrelref02_depth.l0 k l ((b + (T.mk op n nm ts).size - 1 : Nat) : Int) (depthM 0 (ts.take j)) (j : Int)) (T.depth (.mk op n nm ts)) := by
        intro j hj
        rw [List.take_of_length_le hj, T.depth]
        refine Ev.last fun k => ?_
        rw [sorrelref02_depth.l0, if_pos (by omega), if_pos (by omega), ea, ef, if_neg (by omega), w64 _ (by omega)]
      intro q
      induction q with
      | zero => intro j h1 h2; exact fin j (by omega)
      | succ q ihq =>
        intro j h1 h2
        by_cases hj : j < ts.length
        · obtain ⟨p1, q1, e1, l1, r1⟩ := seg_kid e hp j hj
          have hsz := size_take ts j hj
          have go := ih ts[j] _ p1 q1 (by omega) e1 l1
          have nxt := ihq (j + 1) (by omega) (by omega)
          have hst : Ev (fun k => sorrelref02_depth.l0 (k + 1) l ((b + (T.mk op n nm ts).size - 1 : Nat) : Int) (depthM 0 (ts.take j)) (j : Int)) (T.depth (.mk op n nm ts)) := by
            simp only [sorrelref02_depth.l0]
            rw [ea, ef, rd_root r1]
            refine Ev.congr (fun k => if_pos (by omega)) (Ev.congr (fun k => if_pos (by omega)) (Ev.congr (fun k => if_pos (by omega)) (Ev.congr (fun k => if_pos (by omega)) (Ev.bind go ?_))))
            rw [← depthM_take ts j hj, w64 _ (by omega)]
            exact nxt
          exact Ev.step (fun _ => rfl) hst
        · exact fin j (by omega)
    have start := loop _ 0 (Nat.le_refl _) (Nat.zero_le _)
    rw [List.take_zero, depthM] at start
    exact Ev.step (fun k => by rw [sorrelref02_depth.f]; rfl) start
theorem refDepth_ev (t : T) (hok : t.ok = true) (hs : t.size ≤ 64) (hk : ∀ x ∈ t.flat 0, okE x) : Ev (fun k => sorrelref02_Depth.f k (t.flat 0)) (T.depth t, 0) := by
  have hl := flat_len 0 t
  have hp := size_pos t
  unfold sorrelref02_Depth.f
  have e1 : wrap64 (((t.flat 0).length : Int) - 1) = ((0 + t.size - 1 : Nat) : Int) := by rw [w64 _ (by omega)]; omega
  have go := refDepth_at (t.flat 0) (by omega) t.size t 0 [] [] (Nat.le_refl _) (by simp) rfl
  rw [← e1] at go
  exact Ev.bind (refCheck_ev _ hk (by omega)) (Ev.congr (fun k => if_pos (checkE_flat t hok hs)) (Ev.bind go (Ev.now _)))
theorem refDepth_bad (l : List S45) (hl : l.length ≤ 2513169434843) (hk : ∀ x ∈ l, okE x) (hc : checkE l ≠ 0) : Ev (fun k => sorrelref02_Depth.f k l) (0, 1) := by
  unfold sorrelref02_Depth.f
  exact Ev.bind (refCheck_ev _ hk hl) (Ev.congr (fun k => if_neg hc) (Ev.now _))
end Go.Proofs.YtacjjfoelhckcaaDoor.PExprPlays

/- Plain laws over trees: the reference's Part and Put. -/
namespace Go.Proofs.YtacjjfoelhckcaaDoor.PExprPlays
open Go.RowKit Go.Proofs.YtacjjfoelhckcaaDoorW.PrintWords Go.Proofs.YtacjjfoelhckcaaDoorW.PrintMore
set_option linter.unusedVariables false

theorem rd_midN (a zs : List S45) (x : S45) (i : Nat) (h : a.length = i) : rd_T45 (a ++ x :: zs) (i : Int) = x := by
  refine (getD_lt (a ++ x :: zs) i _ (by rw [List.length_append, List.length_cons]; omega)).trans ?_
  rw [List.getElem_append_right (by omega)]
  simp [h]
theorem set_midN (a zs : List S45) (x y : S45) (i : Nat) (h : a.length = i) : (a ++ x :: zs).set i y = a ++ y :: zs := by
  rw [List.set_append_right _ _ (by omega), show i - a.length = 0 by omega, List.set_cons_zero]
theorem set_step3 (kids : List Int) (g : Int → Int) (i : Nat) (hi : i < kids.length) : ((kids.take i).map g ++ kids.drop i).set i (g kids[i]) = (kids.take (i + 1)).map g ++ kids.drop (i + 1) := by
  have e2 : i - ((kids.take i).map g).length = 0 := by simp; omega
  rw [List.set_append_right _ _ (by simp; omega), e2, List.drop_eq_getElem_cons hi, List.set_cons_zero, List.take_succ_eq_append_getElem hi, List.map_append, List.append_assoc]
  rfl
theorem sub_ev (b : Int) (seg : List S45) (h0 : seg.length ≤ 64) (hk : ∀ x ∈ seg, x.f3.length ≤ 64) : Ev (fun k => sorrelref02_PartOf.l0 k b seg 0) (seg.map (shiftZ (-b))) := by
  have eb : ∀ k : Int, wrap64 (k - b) = wrap64 (k + -b) := fun k => by rw [Int.sub_eq_add_neg]
  have inner : ∀ (A Z : List S45) (x : S45) (i : Nat) (hA : A.length = i) (hi : i ≤ 64) (hx : x.f3.length ≤ 64) (v : List S45), Ev (fun k => sorrelref02_PartOf.l0 k b (A ++ shiftZ (-b) x :: Z) (wrap64 ((i : Int) + 1))) v →
      ∀ (n j : Nat), x.f3.length - j ≤ n → j ≤ x.f3.length → Ev (fun k => sorrelref02_PartOf.l1 k b (A ++ (⟨x.f0, x.f1, x.f2, (x.f3.take j).map (fun k => wrap64 (k + -b)) ++ x.f3.drop j⟩ : S45) :: Z) (i : Int) (j : Int)) v := by
    intro A Z x i hA hi hx v hv
    have hll : ∀ y : S45, (A ++ y :: Z).length = i + (Z.length + 1) := fun y => by rw [List.length_append, List.length_cons, hA]
    have fin : ∀ j : Nat, j ≤ x.f3.length → x.f3.length ≤ j → Ev (fun k => sorrelref02_PartOf.l1 k b (A ++ (⟨x.f0, x.f1, x.f2, (x.f3.take j).map (fun k => wrap64 (k + -b)) ++ x.f3.drop j⟩ : S45) :: Z) (i : Int) (j : Int)) v := by
      intro j h1 h2
      rw [List.take_of_length_le (by omega), List.drop_eq_nil_of_le (by omega), List.append_nil]
      refine Ev.step (fun k => ?_) hv
      rw [sorrelref02_PartOf.l1, if_pos (by omega), if_pos (by rw [hll]; omega), rd_midN _ _ _ _ hA, if_neg (by simp; omega)]
      rfl
    intro n
    induction n with
    | zero => intro j h1 h2; exact fin j h2 (by omega)
    | succ n ih =>
      intro j h1 h2
      by_cases hj : j < x.f3.length
      · have go := ih (j + 1) (by omega) (by omega)
        have hlen : ((x.f3.take j).map (fun k => wrap64 (k + -b)) ++ x.f3.drop j).length = x.f3.length := by simp; omega
        have ea : rd ((x.f3.take j).map (fun k => wrap64 (k + -b)) ++ x.f3.drop j) (j : Int) = x.f3[j] := by
          show ((x.f3.take j).map (fun k => wrap64 (k + -b)) ++ x.f3.drop j).getD j 0 = _
          rw [getD_lt _ j 0 (by omega), List.getElem_append_right (by simp; omega)]
          simp
          congr 1
          omega
        have hs := set_step3 x.f3 (fun k => wrap64 (k + -b)) j hj
        refine Ev.step (fun k => ?_) go
        rw [sorrelref02_PartOf.l1, if_pos (by omega), if_pos (by rw [hll]; omega), rd_midN _ _ _ _ hA]
        rw [if_pos (show (j : Int) < (((x.f3.take j).map (fun k => wrap64 (k + -b)) ++ x.f3.drop j).length : Int) by omega), if_pos (by omega), Int.toNat_natCast, set_midN _ _ _ _ _ hA, Int.toNat_natCast]
        dsimp only
        rw [ea, eb, hs, w64 _ (by omega)]
        rfl
      · exact fin j h2 (by omega)
  have loop : ∀ (n i : Nat), seg.length - i ≤ n → i ≤ seg.length → Ev (fun k => sorrelref02_PartOf.l0 k b ((seg.take i).map (shiftZ (-b)) ++ seg.drop i) (i : Int)) (seg.map (shiftZ (-b))) := by
    have fin : ∀ i : Nat, i ≤ seg.length → seg.length ≤ i → Ev (fun k => sorrelref02_PartOf.l0 k b ((seg.take i).map (shiftZ (-b)) ++ seg.drop i) (i : Int)) (seg.map (shiftZ (-b))) := by
      intro i h1 h2
      rw [List.take_of_length_le (by omega), List.drop_eq_nil_of_le (by omega), List.append_nil]
      refine Ev.last fun k => ?_
      rw [sorrelref02_PartOf.l0, if_neg (by simp; omega)]
    intro n
    induction n with
    | zero => intro i h1 h2; exact fin i h2 (by omega)
    | succ n ih =>
      intro i h1 h2
      by_cases hi : i < seg.length
      · have go := ih (i + 1) (by omega) (by omega)
        have hx := hk _ (List.getElem_mem hi)
        have hA : ((seg.take i).map (shiftZ (-b))).length = i := by simp; omega
        have e1 : (seg.take (i + 1)).map (shiftZ (-b)) ++ seg.drop (i + 1) = (seg.take i).map (shiftZ (-b)) ++ shiftZ (-b) seg[i] :: seg.drop (i + 1) := by
          rw [List.take_succ_eq_append_getElem hi, List.map_append, List.append_assoc]; rfl
        rw [e1] at go
        have := inner _ (seg.drop (i + 1)) seg[i] i hA (by omega) hx _ (by rw [w64 _ (by omega)]; exact go) (seg[i]).f3.length 0 (by omega) (by omega)
        refine Ev.step (fun k => ?_) this
        have hl : ((seg.take i).map (shiftZ (-b)) ++ seg.drop i).length = seg.length := by simp; omega
        rw [sorrelref02_PartOf.l0, if_pos (by omega), List.drop_eq_getElem_cons hi]
        simp
        rw [List.drop_eq_getElem_cons hi]
      · exact fin i h2 (by omega)
  have := loop _ 0 (Nat.le_refl _) (by omega)
  rw [List.take_zero, List.map_nil, List.nil_append, List.drop_zero] at this
  exact this
theorem refPart_ev (t : T) (hok : t.ok = true) (hs : t.size ≤ 64) (hk : ∀ x ∈ t.flat 0, okE x) (s : T) (b : Nat) (h : At t 0 s b) : Ev (fun k => sorrelref02_Part.f k (t.flat 0) ((b + s.size - 1 : Nat) : Int)) (s.flat 0, 0) := by
  obtain ⟨pre, post, e, h1, h2⟩ := h.split
  rw [Nat.zero_add] at h1
  have hlen := flat_len 0 t
  have hsp := size_pos s
  have hw := walk_tree (t.flat 0) (by omega) hk s.size s b pre post (Nat.le_refl _) e h1
  have hseg : ((t.flat 0).take (b + s.size)).drop b = s.flat b := by
    rw [e, ← h1, List.append_assoc, List.take_length_add_append, List.drop_left]
    have : (s.flat pre.length).length = s.size := flat_len _ s
    rw [← this, List.take_left]
  have hsl := flat_len b s
  have e1 : wrap64 ((b : Int) - 1 + 1) = (b : Int) := by rw [w64 _ (by omega)]; omega
  have e2 : wrap64 (((b + s.size - 1 : Nat) : Int) + 1) = ((b + s.size : Nat) : Int) := by rw [w64 _ (by omega)]; omega
  have hkid : ∀ x ∈ s.flat b, x.f3.length ≤ 64 := fun x hx => by
    have : ∀ (t : T) (c : Nat), ∀ x ∈ t.flat c, x.f3.length ≤ t.size := flat_kids
    have := this s b x hx
    omega
  have hsub := sub_ev (b : Int) (s.flat b) (by omega) hkid
  rw [moved_back b s (by omega)] at hsub
  have hcp := copy_ev (s.flat b) (by omega) (fun x hx => hk x (by rw [e]; simp [hx]))
  have hpo : Ev (fun k => sorrelref02_PartOf.f k (t.flat 0) ((b + s.size - 1 : Nat) : Int)) (s.flat 0) := by
    unfold sorrelref02_PartOf.f
    refine Ev.bind hw ?_
    rw [e1, e2]
    refine Ev.congr (fun k => if_pos (by omega)) (Ev.congr (fun k => if_pos (by omega)) (Ev.congr (fun k => if_pos (by omega)) ?_))
    rw [Int.toNat_natCast, Int.toNat_natCast, hseg]
    exact Ev.bind hcp hsub
  unfold sorrelref02_Part.f
  exact Ev.bind (refCheck_ev _ hk (by omega)) (Ev.congr (fun k => if_pos (checkE_flat t hok hs)) (Ev.congr (fun k => if_neg (by omega)) (Ev.congr (fun k => if_neg (by omega)) (Ev.bind hpo (Ev.now _)))))
theorem refPart_form (l : List S45) (hl : l.length ≤ 2513169434843) (hk : ∀ x ∈ l, okE x) (hc : checkE l ≠ 0) (i : Int) : Ev (fun k => sorrelref02_Part.f k l i) ([], 1) := by
  unfold sorrelref02_Part.f
  exact Ev.bind (refCheck_ev _ hk hl) (Ev.congr (fun k => if_neg hc) (Ev.now _))
theorem refPart_arg (l : List S45) (hl : l.length ≤ 2513169434843) (hk : ∀ x ∈ l, okE x) (hc : checkE l = 0) (i : Int) (hi : i < 0 ∨ (l.length : Int) ≤ i) : Ev (fun k => sorrelref02_Part.f k l i) ([], 2) := by
  unfold sorrelref02_Part.f
  refine Ev.bind (refCheck_ev _ hk hl) (Ev.congr (fun k => if_pos hc) ?_)
  by_cases h : i < 0
  · exact Ev.congr (fun k => if_pos h) (Ev.now _)
  · exact Ev.congr (fun k => if_neg h) (Ev.congr (fun k => if_pos (by omega)) (Ev.now _))
theorem shift_flat2 (m : T) (b : Nat) (h : m.size ≤ 100000) (hb : b ≤ 100000) : (m.flat 0).map (shiftN b) = m.flat b := by
  have e := flat_moved b m 0
  rw [Nat.zero_add] at e
  rw [e]
  refine List.map_congr_left fun x hx => ?_
  have hk := flat_in m 0 x hx
  unfold shiftN moved
  congr 1
  refine List.map_congr_left fun k hkk => ?_
  have := hk k hkk
  exact w64 _ (by omega)
theorem joined_ev (op n : Int) (nm : ByteArray) (kids0 : List Int) (us : List T) (hs : sizeL us ≤ 100000) : Ev (fun k => sorrelref02_Joined.f k op n nm kids0 (us.map (T.flat 0))) ((T.mk op n nm us).flat 0) := by
  have hul := len_le_size us
  have loop : ∀ (q j : Nat), us.length - j ≤ q → j ≤ us.length → Ev (fun k => sorrelref02_Joined.l0 k (us.map (T.flat 0)) (flatL 0 (us.take j)) (roots 0 (us.take j)) (j : Int) op n nm kids0) ((T.mk op n nm us).flat 0) := by
    have fin : ∀ j : Nat, us.length ≤ j → Ev (fun k => sorrelref02_Joined.l0 k (us.map (T.flat 0)) (flatL 0 (us.take j)) (roots 0 (us.take j)) (j : Int) op n nm kids0) ((T.mk op n nm us).flat 0) := by
      intro j hj
      have hfl := flatL_len 0 us
      rw [List.take_of_length_le hj, T.flat]
      refine Ev.last fun k => ?_
      rw [sorrelref02_Joined.l0, if_neg (by simp; omega), if_pos (by omega)]
    intro q
    induction q with
    | zero => intro j h1 h2; exact fin j (by omega)
    | succ q ih =>
      intro j h1 h2
      by_cases hj : j < us.length
      · have hsz := size_take us j hj
        have hpj := size_pos us[j]
        have hfl := flatL_len 0 (us.take j)
        have hrl := roots_len (us.take j) 0
        have htl : (us.take j).length = j := by rw [List.length_take]; omega
        have ea : rd_L4 (us.map (T.flat 0)) (j : Int) = (us[j]).flat 0 := by
          refine (getD_lt (us.map (T.flat 0)) j _ (by simpa using hj)).trans ?_
          simp
        have hkid : ∀ x ∈ (us[j]).flat 0, x.f3.length ≤ 17592186043904 := fun x hx => by have := flat_kids us[j] 0 x hx; omega
        have hb := behind_ev (flatL 0 (us.take j)) ((us[j]).flat 0) (by rw [hfl, flat_len]; omega) hkid
        rw [hfl, shift_flat2 us[j] (sizeL (us.take j)) (by omega) (by omega)] at hb
        have e1 : flatL 0 (us.take (j + 1)) = flatL 0 (us.take j) ++ (us[j]).flat (sizeL (us.take j)) := by
          rw [List.take_succ_eq_append_getElem hj, flatL_app, flatL, flatL, List.append_nil, Nat.zero_add]
        have e2 : roots 0 (us.take (j + 1)) = roots 0 (us.take j) ++ [((sizeL (us.take j) + (us[j]).size - 1 : Nat) : Int)] := by
          rw [List.take_succ_eq_append_getElem hj, roots_app, roots, roots, Nat.zero_add]
        have go := ih (j + 1) (by omega) (by omega)
        rw [e1, e2] at go
        have hst : Ev (fun k => sorrelref02_Joined.l0 (k + 1) (us.map (T.flat 0)) (flatL 0 (us.take j)) (roots 0 (us.take j)) (j : Int) op n nm kids0) ((T.mk op n nm us).flat 0) := by
          simp only [sorrelref02_Joined.l0]
          rw [ea]
          refine Ev.congr (fun k => if_pos (by simp; omega)) (Ev.congr (fun k => if_pos (by omega)) (Ev.bind hb (Ev.congr (fun k => if_pos (by omega)) ?_)))
          have e3 : wrap64 (((flatL 0 (us.take j) ++ (us[j]).flat (sizeL (us.take j))).length : Int) - 1) = ((sizeL (us.take j) + (us[j]).size - 1 : Nat) : Int) := by
            rw [List.length_append, hfl, flat_len, w64 _ (by omega)]; omega
          rw [e3, w64 _ (by omega)]
          exact go
        exact Ev.step (fun _ => rfl) hst
      · exact fin j (by omega)
  unfold sorrelref02_Joined.f
  exact loop _ 0 (Nat.le_refl _) (Nat.zero_le _)
mutual
/-- The tree with m in the place of the part whose root lies at p. -/
def T.put (p : Nat) (m : T) : Nat → T → T
  | c, .mk op n nm ts => if c + sizeL ts = p then m else .mk op n nm (putTs p m c ts)
def putTs (p : Nat) (m : T) : Nat → List T → List T
  | _, [] => []
  | c, t :: ts => T.put p m c t :: putTs p m (c + t.size) ts
end
mutual
theorem put_off (p : Nat) (m : T) : ∀ (c : Nat) (t : T), (p < c ∨ c + t.size ≤ p) → T.put p m c t = t
  | c, .mk op n nm ts, h => by
    rw [T.size] at h
    rw [T.put, if_neg (by omega), putTs_off p m c ts (by omega)]
theorem putTs_off (p : Nat) (m : T) : ∀ (c : Nat) (ts : List T), (p < c ∨ c + sizeL ts ≤ p) → putTs p m c ts = ts
  | c, [], h => rfl
  | c, t :: ts, h => by
    rw [sizeL] at h
    rw [putTs, put_off p m c t (by omega), putTs_off p m (c + t.size) ts (by omega)]
end
theorem putTs_app (p : Nat) (m : T) : ∀ (us ts : List T) (c : Nat), putTs p m c (us ++ ts) = putTs p m c us ++ putTs p m (c + sizeL us) ts
  | [], ts, c => by rw [List.nil_append, putTs, List.nil_append, sizeL, Nat.add_zero]
  | u :: us, ts, c => by rw [List.cons_append, putTs, putTs, putTs_app p m us ts, sizeL, List.cons_append, Nat.add_assoc]
theorem At.range {t s : T} {c b : Nat} (h : At t c s b) : c ≤ b ∧ b + s.size ≤ c + t.size := by
  induction h with
  | here t c => omega
  | kid op n name us t ts c s b h ih =>
    rw [T.size, sizeL_app, sizeL]
    omega
theorem Rep.put {t s m u : T} {c b : Nat} (h : Rep t c s b m u) : T.put (b + s.size - 1) m c t = u := by
  induction h with
  | here s c m =>
    cases s with | mk op n nm ts =>
    rw [T.put, T.size, if_pos (by omega)]
  | kid op n name us t ts c s b m u h ih =>
    have hr := h.at_.range
    have hp := size_pos s
    rw [T.put, if_neg (by rw [sizeL_app, sizeL]; omega), putTs_app, putTs, ih, putTs_off _ _ _ us (by omega), putTs_off _ _ _ ts (by omega)]
mutual
theorem put_size_le (p : Nat) (m : T) (hm : m.size ≤ 64) : ∀ (c : Nat) (t : T), (T.put p m c t).size ≤ 64 * t.size
  | c, .mk op n nm ts => by
    rw [T.put]
    split
    · rw [T.size]; omega
    · have := putTs_size_le p m hm c ts
      rw [T.size, T.size]
      omega
theorem putTs_size_le (p : Nat) (m : T) (hm : m.size ≤ 64) : ∀ (c : Nat) (ts : List T), sizeL (putTs p m c ts) ≤ 64 * sizeL ts
  | c, [] => by simp [putTs, sizeL]
  | c, t :: ts => by
    have h1 := put_size_le p m hm c t
    have h2 := putTs_size_le p m hm (c + t.size) ts
    rw [putTs, sizeL, sizeL]
    omega
end
theorem putTs_len (p : Nat) (m : T) : ∀ (ts : List T) (c : Nat), (putTs p m c ts).length = ts.length
  | [], c => rfl
  | t :: ts, c => by rw [putTs, List.length_cons, putTs_len p m ts, List.length_cons]
theorem putTs_take (p : Nat) (m : T) (ts : List T) (c j : Nat) (hj : j < ts.length) : (putTs p m c ts).take (j + 1) = (putTs p m c ts).take j ++ [T.put p m (c + sizeL (ts.take j)) ts[j]] := by
  have hl := putTs_len p m ts c
  rw [List.take_succ_eq_append_getElem (by omega)]
  congr 1
  have e1 : ts = ts.take j ++ ts[j] :: ts.drop (j + 1) := by rw [← List.drop_eq_getElem_cons hj, List.take_append_drop]
  have e2 : putTs p m c ts = putTs p m c (ts.take j) ++ (T.put p m (c + sizeL (ts.take j)) ts[j] :: putTs p m (c + sizeL (ts.take j) + (ts[j]).size) (ts.drop (j + 1))) := by
    conv => lhs; rw [e1]
    rw [putTs_app, putTs]
  have hl2 : (putTs p m c (ts.take j)).length = j := by rw [putTs_len, List.length_take]; omega
  have : (putTs p m c ts)[j]? = some (T.put p m (c + sizeL (ts.take j)) ts[j]) := by
    rw [e2, List.getElem?_append_right (by omega), hl2, Nat.sub_self]; rfl
  rw [List.getElem?_eq_getElem (by omega)] at this
  rw [Option.some.inj this]
theorem putIn_ev (l : List S45) (hl : l.length ≤ 64) (p : Nat) (hp64 : p ≤ 64) (m : T) (hm : m.size ≤ 64) : ∀ (N : Nat) (t : T) (c : Nat) (pre post : List S45), t.size ≤ N → l = pre ++ t.flat c ++ post → pre.length = c →
    Ev (fun k => sorrelref02_PutIn.f k l ((c + t.size - 1 : Nat) : Int) (p : Int) (m.flat 0)) ((T.put p m c t).flat 0) := by
  intro N
  induction N with
  | zero => intro t c pre post h; have := size_pos t; omega
  | succ N ih =>
    intro t c pre post hN e hp
    obtain ⟨hlt, hroot⟩ := seg_root e hp
    have ea : rd_T45 l ((c + t.size - 1 : Nat) : Int) = rootN c t := (getD_lt l _ _ hlt).trans hroot
    cases t with | mk op n nm ts =>
    have est : (T.mk op n nm ts).size = sizeL ts + 1 := by rw [T.size]
    rw [T.put]
    by_cases hh : c + sizeL ts = p
    · rw [if_pos hh]
      refine Ev.last fun k => ?_
      rw [sorrelref02_PutIn.f, if_pos (by omega)]
    · rw [if_neg hh]
      have hrl := roots_len ts c
      have ef : (rootN c (.mk op n nm ts)).f3 = roots c ts := rfl
      have hts := len_le_size ts
      have hps := putTs_size_le p m hm c ts
      have hpl := putTs_len p m ts c
      have loop : ∀ (q j : Nat), ts.length - j ≤ q → j ≤ ts.length → Ev (fun k => sorrelref02_PutIn.l0 k l ((c + (T.mk op n nm ts).size - 1 : Nat) : Int) (p : Int) (m.flat 0) (((putTs p m c ts).take j).map (T.flat 0)) (j : Int)) ((T.mk op n nm (putTs p m c ts)).flat 0) := by
        have fin : ∀ j : Nat, ts.length ≤ j → Ev (fun k => sorrelref02_PutIn.l0 k l ((c + (T.mk op n nm ts).size - 1 : Nat) : Int) (p : Int) (m.flat 0) (((putTs p m c ts).take j).map (T.flat 0)) (j : Int)) ((T.mk op n nm (putTs p m c ts)).flat 0) := by
          intro j hj
          rw [List.take_of_length_le (by omega)]
          have hJ := joined_ev op n nm (roots c ts) (putTs p m c ts) (by omega)
          have hst : Ev (fun k => sorrelref02_PutIn.l0 (k + 1) l ((c + (T.mk op n nm ts).size - 1 : Nat) : Int) (p : Int) (m.flat 0) ((putTs p m c ts).map (T.flat 0)) (j : Int)) ((T.mk op n nm (putTs p m c ts)).flat 0) := by
            simp only [sorrelref02_PutIn.l0]
            rw [ea]
            refine Ev.congr (fun k => if_pos (by omega)) (Ev.congr (fun k => if_pos (by omega)) (Ev.congr (fun k => if_neg (by rw [ef]; omega)) ?_))
            exact Ev.bind hJ (Ev.now _)
          exact Ev.step (fun _ => rfl) hst
        intro q
        induction q with
        | zero => intro j h1 h2; exact fin j (by omega)
        | succ q ihq =>
          intro j h1 h2
          by_cases hj : j < ts.length
          · obtain ⟨p1, q1, e1, l1, r1⟩ := seg_kid e hp j hj
            have hsz := size_take ts j hj
            have go := ih ts[j] _ p1 q1 (by omega) e1 l1
            have nxt := ihq (j + 1) (by omega) (by omega)
            rw [putTs_take p m ts c j hj, List.map_append, List.map_cons, List.map_nil] at nxt
            have hst : Ev (fun k => sorrelref02_PutIn.l0 (k + 1) l ((c + (T.mk op n nm ts).size - 1 : Nat) : Int) (p : Int) (m.flat 0) (((putTs p m c ts).take j).map (T.flat 0)) (j : Int)) ((T.mk op n nm (putTs p m c ts)).flat 0) := by
              simp only [sorrelref02_PutIn.l0]
              rw [ea, ef, rd_root r1]
              refine Ev.congr (fun k => if_pos (by omega)) (Ev.congr (fun k => if_pos (by omega)) (Ev.congr (fun k => if_pos (by omega)) (Ev.congr (fun k => if_pos (by omega)) (Ev.bind go (Ev.congr (fun k => if_pos (by simp; omega)) ?_)))))
              rw [w64 _ (by omega)]
              exact nxt
            exact Ev.step (fun _ => rfl) hst
          · exact fin j (by omega)
      have start := loop _ 0 (Nat.le_refl _) (Nat.zero_le _)
      rw [List.take_zero, List.map_nil] at start
      refine Ev.step (fun k => ?_) start
      rw [sorrelref02_PutIn.f, if_neg (by omega)]
      rfl
theorem refPut_form (l m : List S45) (hl : l.length ≤ 2513169434843) (hml : m.length ≤ 2513169434843) (hk : ∀ x ∈ l, okE x) (hmk : ∀ x ∈ m, okE x) (hc : checkE l ≠ 0 ∨ checkE m ≠ 0) (i : Int) : Ev (fun k => sorrelref02_Put.f k l i m) ([], 1) := by
  have hj : Ev (fun k => sorrelref02_Put.j0 k l i m true) ([], 1) := Ev.last fun k => by rw [sorrelref02_Put.j0, if_pos rfl]
  unfold sorrelref02_Put.f
  refine Ev.bind (refCheck_ev _ hk hl) ?_
  by_cases h : checkE l = 0
  · refine Ev.congr (fun k => if_pos h) (Ev.bind (refCheck_ev _ hmk hml) ?_)
    have hm : checkE m ≠ 0 := hc.resolve_left fun h' => h' h
    have e : (checkE m != 0) = true := by simpa using hm
    rw [e]
    exact hj
  · exact Ev.congr (fun k => if_neg h) hj
theorem refPut_arg (l m : List S45) (hl : l.length ≤ 2513169434843) (hml : m.length ≤ 2513169434843) (hk : ∀ x ∈ l, okE x) (hmk : ∀ x ∈ m, okE x) (hc : checkE l = 0) (hm : checkE m = 0) (i : Int) (hi : i < 0 ∨ (l.length : Int) ≤ i) : Ev (fun k => sorrelref02_Put.f k l i m) ([], 2) := by
  have hj : Ev (fun k => sorrelref02_Put.j1 k l i m true) ([], 2) := Ev.last fun k => by rw [sorrelref02_Put.j1, if_pos rfl]
  have h0 : Ev (fun k => sorrelref02_Put.j0 k l i m false) ([], 2) := by
    refine Ev.step (fun k => ?_) hj
    rw [sorrelref02_Put.j0, if_neg (by simp)]
    by_cases h : i < 0
    · rw [if_pos h]
    · rw [if_neg h, decide_eq_true (show i ≥ (l.length : Int) by omega)]
  unfold sorrelref02_Put.f
  refine Ev.bind (refCheck_ev _ hk hl) (Ev.congr (fun k => if_pos hc) (Ev.bind (refCheck_ev _ hmk hml) ?_))
  have e : (checkE m != 0) = false := by rw [hm]; rfl
  rw [e]
  exact h0
theorem refPut_ev (t : T) (hok : t.ok = true) (hs : t.size ≤ 64) (hk : ∀ x ∈ t.flat 0, okE x) (m : T) (hmok : m.ok = true) (hms : m.size ≤ 64) (hmk : ∀ x ∈ m.flat 0, okE x) (s u : T) (b : Nat) (h : Rep t 0 s b m u) :
    Ev (fun k => sorrelref02_Put.f k (t.flat 0) ((b + s.size - 1 : Nat) : Int) (m.flat 0)) (if u.size ≤ 64 then (u.flat 0, 0) else ([], 10)) := by
  have hlen := flat_len 0 t
  have hml := flat_len 0 m
  have hul := flat_len 0 u
  have hsp := size_pos s
  have htp := size_pos t
  have hr := h.at_.range
  have hpi := putIn_ev (t.flat 0) (by omega) (b + s.size - 1) (by omega) m hms t.size t 0 [] [] (Nat.le_refl _) (by simp) rfl
  rw [h.put] at hpi
  have e1 : wrap64 (((t.flat 0).length : Int) - 1) = ((0 + t.size - 1 : Nat) : Int) := by rw [w64 _ (by omega)]; omega
  rw [← e1] at hpi
  have hj1 : Ev (fun k => sorrelref02_Put.j1 (k + 1) (t.flat 0) ((b + s.size - 1 : Nat) : Int) (m.flat 0) false) (if u.size ≤ 64 then (u.flat 0, 0) else ([], 10)) := by
    simp only [sorrelref02_Put.j1]
    refine Ev.congr (fun k => if_neg (by simp)) (Ev.bind hpi ?_)
    by_cases hu : u.size ≤ 64
    · rw [if_pos hu]
      exact Ev.congr (fun k => if_neg (by omega)) (Ev.bind (copy_ev _ (by omega) (ok_rep h hs hms hk hmk)) (Ev.now _))
    · rw [if_neg hu]
      exact Ev.congr (fun k => if_pos (by omega)) (Ev.now _)
  have hj0 : Ev (fun k => sorrelref02_Put.j0 k (t.flat 0) ((b + s.size - 1 : Nat) : Int) (m.flat 0) false) (if u.size ≤ 64 then (u.flat 0, 0) else ([], 10)) := by
    have hj2 : Ev (fun k => sorrelref02_Put.j1 k (t.flat 0) ((b + s.size - 1 : Nat) : Int) (m.flat 0) false) (if u.size ≤ 64 then (u.flat 0, 0) else ([], 10)) := Ev.step (fun _ => rfl) hj1
    refine Ev.step (fun k => ?_) hj2
    rw [sorrelref02_Put.j0, if_neg (by simp), if_neg (by omega), decide_eq_false (by omega)]
  unfold sorrelref02_Put.f
  refine Ev.bind (refCheck_ev _ hk (by omega)) (Ev.congr (fun k => if_pos (checkE_flat t hok hs)) (Ev.bind (refCheck_ev _ hmk (by omega)) ?_))
  have e : (checkE (m.flat 0) != 0) = false := by rw [checkE_flat m hmok hms]; rfl
  rw [e]
  exact hj0
end Go.Proofs.YtacjjfoelhckcaaDoor.PExprPlays

/- Plain laws: the reference's names, put in one by one. -/
namespace Go.Proofs.YtacjjfoelhckcaaDoor.PExprPlays
open Go.RowKit Go.Sort Go.Lib Go.Proofs.YtacjjfoelhckcaaDoorW.PrintWords
set_option linter.unusedVariables false

theorem bytes_inj {a b : ByteArray} (h : a.toList = b.toList) : a = b := by
  rw [ByteArray.toList_eq, ByteArray.toList_eq] at h
  cases a; cases b
  congr 1
  exact Array.toList_inj.1 h
def befN (x y : ByteArray) : Prop := cmpL (runesL x) (runesL y) < 0
def insN (x : ByteArray) : List ByteArray → List ByteArray
  | [] => [x]
  | y :: ys => if cmpL (runesL y) (runesL x) < 0 then y :: insN x ys else if y.toList = x.toList then y :: ys else x :: y :: ys
theorem ins_mem (x z : ByteArray) : ∀ ys, z ∈ insN x ys ↔ z = x ∨ z ∈ ys
  | [] => by simp [insN]
  | y :: ys => by
    rw [insN]
    split
    · rw [List.mem_cons, ins_mem x z ys, List.mem_cons]
      constructor
      · rintro (h | h | h)
        · exact .inr (.inl h)
        · exact .inl h
        · exact .inr (.inr h)
      · rintro (h | h | h)
        · exact .inr (.inl h)
        · exact .inl h
        · exact .inr (.inr h)
    · split
      · rename_i h
        have := bytes_inj h
        constructor
        · exact .inr
        · rintro (h | h)
          · rw [h, ← this]; exact List.mem_cons_self ..
          · exact h
      · rw [List.mem_cons]
theorem ins_len (x : ByteArray) : ∀ ys, (insN x ys).length ≤ ys.length + 1
  | [] => Nat.le_refl _
  | y :: ys => by
    have := ins_len x ys
    rw [insN]
    split
    · simp only [List.length_cons]; omega
    · split
      · omega
      · simp
theorem bef_trans {x y z : ByteArray} (h1 : befN x y) (h2 : befN y z) : befN x z := (cmpL_tr (runesL x) (runesL y) (runesL z)).2.1 h1 (by unfold befN at h2; omega)
theorem bef_irr (x : ByteArray) : ¬ befN x x := by
  unfold befN
  have := (cmpL_zero (runesL x) (runesL x)).2 rfl
  omega
theorem bef_of {x y : ByteArray} (hy : nameB y = true) (h : ¬ cmpL (runesL y) (runesL x) < 0) (hne : y ≠ x) : befN x y := by
  have s := cmpL_swap (runesL y) (runesL x)
  have z : cmpL (runesL y) (runesL x) ≠ 0 := fun e => hne (runesL_inj hy ((cmpL_zero _ _).1 e))
  unfold befN
  omega
theorem ins_sorted (x : ByteArray) : ∀ ys : List ByteArray, (∀ y ∈ ys, nameB y = true) → ys.Pairwise befN → (insN x ys).Pairwise befN
  | [], _, _ => List.pairwise_singleton _ _
  | y :: ys, hy, h => by
    obtain ⟨h1, h2⟩ := List.pairwise_cons.1 h
    rw [insN]
    split
    · rename_i hlt
      refine List.pairwise_cons.2 ⟨fun z hz => ?_, ins_sorted x ys (fun z hz => hy z (List.mem_cons_of_mem _ hz)) h2⟩
      rcases (ins_mem x z ys).1 hz with rfl | hz
      · exact hlt
      · exact h1 z hz
    · rename_i hge
      split
      · exact h
      · rename_i hne
        have hb : befN x y := bef_of (hy y (List.mem_cons_self ..)) hge fun e => hne (by rw [e])
        refine List.pairwise_cons.2 ⟨fun z hz => ?_, h⟩
        rcases List.mem_cons.1 hz with rfl | hz
        · exact hb
        · exact bef_trans hb (h1 z hz)
theorem sorted_uniq : ∀ xs ys : List ByteArray, xs.Pairwise befN → ys.Pairwise befN → (∀ z, z ∈ xs ↔ z ∈ ys) → xs = ys
  | [], [], _, _, _ => rfl
  | [], y :: ys, _, _, h => absurd ((h y).2 (List.mem_cons_self ..)) (by simp)
  | x :: xs, [], _, _, h => absurd ((h x).1 (List.mem_cons_self ..)) (by simp)
  | x :: xs, y :: ys, h1, h2, h => by
    obtain ⟨a1, a2⟩ := List.pairwise_cons.1 h1
    obtain ⟨b1, b2⟩ := List.pairwise_cons.1 h2
    have e : x = y := by
      rcases List.mem_cons.1 ((h x).1 (List.mem_cons_self ..)) with e | hx
      · exact e
      · rcases List.mem_cons.1 ((h y).2 (List.mem_cons_self ..)) with e | hy
        · exact e.symm
        · exact absurd (bef_trans (a1 y hy) (b1 x hx)) (bef_irr x)
    subst e
    rw [sorted_uniq xs ys a2 b2 fun z => ?_]
    constructor
    · intro hz
      rcases List.mem_cons.1 ((h z).1 (List.mem_cons_of_mem _ hz)) with e | hz'
      · subst e; exact absurd (a1 _ hz) (bef_irr _)
      · exact hz'
    · intro hz
      rcases List.mem_cons.1 ((h z).2 (List.mem_cons_of_mem _ hz)) with e | hz'
      · subst e; exact absurd (b1 _ hz) (bef_irr _)
      · exact hz'
theorem comp_mem_of {xs : List ByteArray} {x : ByteArray} (h : x ∈ compN xs) : x ∈ xs := by
  obtain ⟨j, hj, rfl⟩ := List.mem_map.1 h
  have hj' : j < xs.length := by simpa using (List.mem_filter.1 hj).1
  rw [getElem!_pos xs.toArray j (by simpa using hj')]
  simp
theorem comp_sorted (xs : List ByteArray) (hn : ∀ x ∈ xs, nameB x = true) (hs : xs.Pairwise fun x y => cmpL (runesL x) (runesL y) ≤ 0) : (compN xs).Pairwise befN := by
  have hget : ∀ i j (hj : j < xs.length), i < j → cmpL (runesL xs.toArray[i]!) (runesL xs.toArray[j]!) ≤ 0 := by
    intro i j hj hij
    rw [getElem!_pos xs.toArray j (by simpa using hj), getElem!_pos xs.toArray i (by simp; omega)]
    exact List.pairwise_iff_getElem.1 hs i j (by omega) hj hij
  unfold compN compactUpTo
  refine List.pairwise_map.2 (List.Pairwise.imp_of_mem (R := fun a b => a < b) ?_ (List.Pairwise.filter _ List.pairwise_lt_range))
  intro a b ha hb hab
  obtain ⟨h1, h2⟩ := List.mem_filter.1 hb
  have hb' : b < xs.length := by simpa using h1
  have hk : xs.toArray[b]! ≠ xs.toArray[b - 1]! := by
    rw [keeps, decide_eq_true_eq] at h2
    exact h2.resolve_left (by omega)
  have l1 := hget (b - 1) b hb' (by omega)
  have hm : nameB xs.toArray[b]! = true := by
    rw [getElem!_pos xs.toArray b (by simpa using hb')]
    exact hn _ (by simp)
  have st : befN xs.toArray[b - 1]! xs.toArray[b]! := by
    refine bef_of hm (fun hlt => ?_) hk
    have s := cmpL_swap (runesL xs.toArray[b]!) (runesL xs.toArray[b - 1]!)
    omega
  by_cases he : a = b - 1
  · rw [he]; exact st
  · have l2 := hget a (b - 1) (by omega) (by omega)
    exact (cmpL_tr _ _ _).2.2.1 l2 st
theorem sort_sorted (xs : List ByteArray) : (sortN xs).Pairwise fun x y => cmpL (runesL x) (runesL y) ≤ 0 := by
  have := List.pairwise_mergeSort (le := fun x y : ByteArray => decide (cmpL (runesL x) (runesL y) ≤ 0)) (fun a b c h1 h2 => by
    rw [decide_eq_true_eq] at h1 h2 ⊢
    exact (cmpL_tr _ _ _).1 h1 h2) (fun a b => by
    have s := cmpL_swap (runesL a) (runesL b)
    rw [Bool.or_eq_true, decide_eq_true_eq, decide_eq_true_eq]
    omega) xs
  exact this.imp fun h => by simpa using h
def refNames (l : List S45) : List ByteArray := (varsL l).foldl (fun a x => insN x a) []
theorem fold_sorted : ∀ (xs acc : List ByteArray), (∀ x ∈ xs, nameB x = true) → (∀ x ∈ acc, nameB x = true) → acc.Pairwise befN → (xs.foldl (fun a x => insN x a) acc).Pairwise befN ∧ ∀ z, z ∈ xs.foldl (fun a x => insN x a) acc ↔ z ∈ xs ∨ z ∈ acc
  | [], acc, _, _, h => ⟨h, fun z => by simp⟩
  | x :: xs, acc, hx, ha, h => by
    obtain ⟨h1, h2⟩ := fold_sorted xs (insN x acc) (fun z hz => hx z (List.mem_cons_of_mem _ hz)) (fun z hz => by
      rcases (ins_mem x z acc).1 hz with rfl | hz
      · exact hx _ (List.mem_cons_self ..)
      · exact ha z hz) (ins_sorted x acc ha h)
    refine ⟨h1, fun z => ?_⟩
    rw [List.foldl_cons, h2, ins_mem, List.mem_cons]
    constructor
    · rintro (h | h | h)
      · exact .inl (.inr h)
      · exact .inl (.inl h)
      · exact .inr h
    · rintro ((h | h) | h)
      · exact .inr (.inl h)
      · exact .inl h
      · exact .inr (.inr h)
theorem refNames_eq (l : List S45) (h : (varsL l).all okName = true) : refNames l = namesL l := by
  have hn : ∀ x ∈ varsL l, nameB x = true := fun x hx => by
    have := List.all_eq_true.1 h x hx
    rw [okName, Bool.and_eq_true] at this
    exact this.1
  obtain ⟨h1, h2⟩ := fold_sorted (varsL l) [] hn (by simp) List.Pairwise.nil
  refine sorted_uniq _ _ h1 (comp_sorted _ (fun x hx => hn x (List.mem_mergeSort.1 hx)) (sort_sorted _)) fun z => ?_
  refine (h2 z).trans ⟨fun hz => ?_, fun hz => .inl ?_⟩
  · rcases hz with hz | hz
    · exact comp_mem (List.mem_mergeSort.2 hz)
    · cases hz
  · exact List.mem_mergeSort.1 (comp_mem_of hz)
theorem fold_len : ∀ (xs acc : List ByteArray), (xs.foldl (fun a x => insN x a) acc).length ≤ xs.length + acc.length
  | [], acc => by simp
  | x :: xs, acc => by
    have h1 := fold_len xs (insN x acc)
    have h2 := ins_len x acc
    rw [List.foldl_cons, List.length_cons]
    omega
theorem shift_ev (l : List S45) (i : Nat) (hi : i < l.length) (hl : l.length ≤ 64) (xs : List ByteArray) (hx : xs.length ≤ 64) (k0 : Nat) (hk0 : k0 ≤ xs.length) (v : List ByteArray × Int)
    (hv : Ev (fun k => sorrelref02_Vars.l0 k l (xs.take k0 ++ (l[i]).f2 :: xs.drop k0) ((i + 1 : Nat) : Int)) v) :
    ∀ (n j : Nat), j - k0 ≤ n → k0 ≤ j → j ≤ xs.length → ∀ e : ByteArray, Ev (fun k => sorrelref02_Vars.l2 k l (xs.take j ++ e :: xs.drop j) (i : Int) (k0 : Int) (j : Int)) v := by
  have fin : ∀ e : ByteArray, Ev (fun k => sorrelref02_Vars.l2 k l (xs.take k0 ++ e :: xs.drop k0) (i : Int) (k0 : Int) (k0 : Int)) v := by
    intro e
    have ea : rd_T45 l (i : Int) = l[i] := getD_lt l i _ hi
    have hln : (xs.take k0 ++ e :: xs.drop k0).length = xs.length + 1 := by rw [List.length_append, List.length_cons, List.length_take, List.length_drop]; omega
    have es : (xs.take k0 ++ e :: xs.drop k0).set k0 (l[i]).f2 = xs.take k0 ++ (l[i]).f2 :: xs.drop k0 := by
      have ht : (xs.take k0).length = k0 := by rw [List.length_take]; omega
      rw [List.set_append_right _ _ (by omega), ht, Nat.sub_self]
      rfl
    refine Ev.step (fun k => ?_) hv
    rw [sorrelref02_Vars.l2, if_neg (by omega), if_pos (by omega), if_pos (by omega), if_pos (by omega), if_pos (by omega), ea, w64 _ (by omega), Int.toNat_natCast, es]
    rfl
  intro n
  induction n with
  | zero =>
    intro j h1 h2 h3 e
    obtain rfl : j = k0 := by omega
    exact fin e
  | succ n ih =>
    intro j h1 h2 h3 e
    by_cases hj : j = k0
    · subst hj; exact fin e
    · obtain ⟨m, rfl⟩ : ∃ m, j = m + 1 := ⟨j - 1, by omega⟩
      have hm : m < xs.length := by omega
      have hln : (xs.take (m + 1) ++ e :: xs.drop (m + 1)).length = xs.length + 1 := by rw [List.length_append, List.length_cons, List.length_take, List.length_drop]; omega
      have ht : (xs.take (m + 1)).length = m + 1 := by rw [List.length_take]; omega
      have ew : wrap64 (((m + 1 : Nat) : Int) - 1) = (m : Int) := by rw [w64 _ (by omega)]; omega
      have er : rdOf ByteArray.empty (xs.take (m + 1) ++ e :: xs.drop (m + 1)) (m : Int) = xs[m] := by
        show (xs.take (m + 1) ++ e :: xs.drop (m + 1)).getD m _ = _
        rw [List.getD_eq_getElem?_getD, List.getElem?_append_left (by omega), List.getElem?_take, if_pos (by omega), List.getElem?_eq_getElem hm]
        rfl
      have es : (xs.take (m + 1) ++ e :: xs.drop (m + 1)).set (m + 1) xs[m] = xs.take m ++ xs[m] :: xs.drop m := by
        rw [List.set_append_right _ _ (by omega), ht, Nat.sub_self]
        show xs.take (m + 1) ++ xs[m] :: xs.drop (m + 1) = _
        rw [List.take_succ_eq_append_getElem hm, List.append_assoc]
        show xs.take m ++ (xs[m] :: xs[m] :: xs.drop (m + 1)) = _
        rw [← List.drop_eq_getElem_cons hm]
      refine Ev.step (fun k => ?_) (ih m (by omega) (by omega) (by omega) xs[m])
      rw [sorrelref02_Vars.l2, if_pos (by omega), ew, if_pos (by omega), if_pos (by omega), if_pos (by omega), if_pos (by omega), er, Int.toNat_natCast, es]
theorem put_name_ev (l : List S45) (i : Nat) (hi : i < l.length) (hl : l.length ≤ 64) (xs : List ByteArray) (hx : xs.length ≤ 64) (hr : (runesL (l[i]).f2).length ≤ 70368744177664) (hxr : ∀ x ∈ xs, (runesL x).length ≤ 70368744177664) (v : List ByteArray × Int)
    (hv : Ev (fun k => sorrelref02_Vars.l0 k l (insN (l[i]).f2 xs) ((i + 1 : Nat) : Int)) v) :
    ∀ (n j : Nat), xs.length - j ≤ n → j ≤ xs.length → insN (l[i]).f2 xs = xs.take j ++ insN (l[i]).f2 (xs.drop j) → Ev (fun k => sorrelref02_Vars.l1 k l xs (i : Int) (j : Int)) v := by
  have ea : rd_T45 l (i : Int) = l[i] := getD_lt l i _ hi
  have put : ∀ j : Nat, j ≤ xs.length → insN (l[i]).f2 xs = xs.take j ++ (l[i]).f2 :: xs.drop j → Ev (fun k => sorrelref02_Vars.j3 k l xs (i : Int) (j : Int) false) v := by
    intro j hj e
    rw [e] at hv
    have := shift_ev l i hi hl xs hx j hj v hv _ xs.length (Nat.le_refl _) hj (Nat.le_refl _) (⟨#[]⟩ : ByteArray)
    rw [List.take_of_length_le (Nat.le_refl _), List.drop_of_length_le (Nat.le_refl _)] at this
    refine Ev.step (fun k => ?_) this
    have ew : wrap64 (((xs ++ [(⟨#[]⟩ : ByteArray)]).length : Int) - 1) = (xs.length : Int) := by rw [List.length_append, List.length_singleton, w64 _ (by omega)]; omega
    rw [sorrelref02_Vars.j3, if_neg (by decide), if_pos (by omega), Option.bind_some, ew]
  have fin : ∀ j : Nat, j ≤ xs.length → xs.length ≤ j → insN (l[i]).f2 xs = xs.take j ++ insN (l[i]).f2 (xs.drop j) → Ev (fun k => sorrelref02_Vars.l1 k l xs (i : Int) (j : Int)) v := by
    intro j h1 h2 e
    have hd : xs.drop j = [] := List.drop_of_length_le h2
    have := put j h1 (by rw [e, hd]; rfl)
    have h2 : Ev (fun k => sorrelref02_Vars.j2 k l xs (i : Int) (j : Int)) v := by
      refine Ev.step (fun k => ?_) this
      rw [sorrelref02_Vars.j2, if_neg (by omega)]
    refine Ev.step (fun k => ?_) h2
    rw [sorrelref02_Vars.l1, if_neg (by omega)]
  intro n
  induction n with
  | zero => intro j h1 h2 e; exact fin j h2 (by omega) e
  | succ n ih =>
    intro j h1 h2 e
    by_cases hj : j < xs.length
    · have ex : rdOf ByteArray.empty xs (j : Int) = xs[j] := getD_lt xs j _ hj
      have hd : xs.drop j = xs[j] :: xs.drop (j + 1) := List.drop_eq_getElem_cons hj
      have ho : sorrelref01_Order.f xs[j] (l[i]).f2 = some (cmpL (runesL xs[j]) (runesL (l[i]).f2)) := by
        rw [sorrelref01_Order.f, orderR, if_pos ⟨hxr _ (List.getElem_mem hj), hr⟩]
      rw [hd, insN] at e
      by_cases hlt : cmpL (runesL xs[j]) (runesL (l[i]).f2) < 0
      · rw [if_pos hlt] at e
        have go := ih (j + 1) (by omega) (by omega) (by rw [e, List.take_succ_eq_append_getElem hj, List.append_assoc]; rfl)
        refine Ev.step (fun k => ?_) go
        rw [sorrelref02_Vars.l1, if_pos (by omega), if_pos (by omega), if_pos (by omega), if_pos (by omega), ex, ea, ho, Option.bind_some, if_pos hlt, w64 _ (by omega)]
        rfl
      · rw [if_neg hlt] at e
        have nx : Ev (fun k => sorrelref02_Vars.j3 k l xs (i : Int) (j : Int) (xs[j].toList == (l[i]).f2.toList)) v := by
          by_cases he : xs[j].toList = (l[i]).f2.toList
          · rw [if_pos he, ← hd, List.take_append_drop] at e
            rw [e] at hv
            refine Ev.step (fun k => ?_) hv
            rw [sorrelref02_Vars.j3, if_pos (by rw [he]; exact beq_self_eq_true _), w64 _ (by omega)]
            rfl
          · rw [if_neg he, ← hd] at e
            rw [beq_eq_false_iff_ne.2 he]
            exact put j h2 e
        have h2 : Ev (fun k => sorrelref02_Vars.j2 k l xs (i : Int) (j : Int)) v := by
          refine Ev.step (fun k => ?_) nx
          rw [sorrelref02_Vars.j2, if_pos (by omega), if_pos (by omega), if_pos (by omega), if_pos (by omega), ex, ea]
        refine Ev.step (fun k => ?_) h2
        rw [sorrelref02_Vars.l1, if_pos (by omega), if_pos (by omega), if_pos (by omega), if_pos (by omega), ex, ea, ho, Option.bind_some, if_neg hlt]
    · exact fin j h2 (by omega) e
theorem refVars_ev (l : List S45) (hk : ∀ x ∈ l, okE x) (hlen : l.length ≤ 2513169434843) : Ev (fun k => sorrelref02_Vars.f k l) (if checkE l = 0 then (namesL l, 0) else ([], 1)) := by
  unfold sorrelref02_Vars.f
  refine Ev.bind (refCheck_ev l hk hlen) ?_
  by_cases hc : checkE l = 0
  · rw [if_pos hc]
    refine Ev.congr (fun k => if_pos hc) ?_
    have hl : l.length ≤ 64 ∧ checkFrom [] 0 l = 0 := by
      unfold checkE at hc
      split at hc
      · cases hc
      · rename_i h; exact ⟨by omega, hc⟩
    have hok := vars_ok (form_all l [] 0 hl.2) hk
    rw [← refNames_eq l hok]
    have hrl : ∀ i, ∀ x ∈ refNames (l.take i), (runesL x).length ≤ 70368744177664 := by
      intro i x hx
      have hsub : ∀ y ∈ varsL (l.take i), okName y = true := by
        intro y hy
        obtain ⟨z, hz, rfl⟩ := List.mem_map.1 hy
        obtain ⟨hz1, hz2⟩ := List.mem_filter.1 hz
        exact List.all_eq_true.1 hok _ (List.mem_map.2 ⟨z, List.mem_filter.2 ⟨List.mem_of_mem_take hz1, hz2⟩, rfl⟩)
      have hn : ∀ y ∈ varsL (l.take i), nameB y = true := fun y hy => by
        have := hsub y hy
        rw [okName, Bool.and_eq_true] at this
        exact this.1
      rcases ((fold_sorted (varsL (l.take i)) [] hn (by simp) List.Pairwise.nil).2 x).1 hx with h | h
      · exact okName_runes (hsub x h)
      · cases h
    have loop : ∀ (n i : Nat), l.length - i ≤ n → i ≤ l.length → Ev (fun k => sorrelref02_Vars.l0 k l (refNames (l.take i)) (i : Int)) (refNames l, 0) := by
      have fin : ∀ i : Nat, i ≤ l.length → l.length ≤ i → Ev (fun k => sorrelref02_Vars.l0 k l (refNames (l.take i)) (i : Int)) (refNames l, 0) := by
        intro i h1 h2
        refine Ev.last fun k => ?_
        rw [sorrelref02_Vars.l0, if_neg (by omega), List.take_of_length_le (by omega)]
      intro n
      induction n with
      | zero => intro i h1 h2; exact fin i h2 (by omega)
      | succ n ih =>
        intro i h1 h2
        by_cases hi : i < l.length
        · have ea : rd_T45 l (i : Int) = l[i] := getD_lt l i _ hi
          have go := ih (i + 1) (by omega) (by omega)
          have hfl := fold_len (varsL (l.take i)) []
          have hvl := vars_len (l.take i)
          rw [List.length_take] at hvl
          have hrn : (refNames (l.take i)).length ≤ 64 := by
            unfold refNames
            rw [List.length_nil] at hfl
            omega
          by_cases h3 : (l[i]).f0 = 2
          · have e : varsL (l.take (i + 1)) = varsL (l.take i) ++ [(l[i]).f2] := by
              rw [List.take_succ_eq_append_getElem hi, varsL, List.filter_append, List.map_append]
              congr 1
              simp [h3]
            have e2 : refNames (l.take (i + 1)) = insN (l[i]).f2 (refNames (l.take i)) := by
              rw [refNames, e, List.foldl_append]; rfl
            rw [e2] at go
            have hr : (runesL (l[i]).f2).length ≤ 70368744177664 := by
              refine okName_runes (List.all_eq_true.1 hok _ (List.mem_map.2 ⟨l[i], List.mem_filter.2 ⟨List.getElem_mem hi, ?_⟩, rfl⟩))
              simpa using h3
            have nx := put_name_ev l i hi hl.1 (refNames (l.take i)) hrn hr (hrl i) _ go _ 0 (Nat.le_refl _) (Nat.zero_le _) (by rw [List.take_zero, List.drop_zero, List.nil_append])
            refine Ev.step (fun k => ?_) nx
            rw [sorrelref02_Vars.l0, if_pos (by omega), if_pos (by omega), ea, if_pos h3]
            rfl
          · have e : varsL (l.take (i + 1)) = varsL (l.take i) := by
              rw [List.take_succ_eq_append_getElem hi, varsL, List.filter_append, List.map_append]
              have : List.filter (fun x => x.f0 == 2) [l[i]] = [] := by simp [h3]
              rw [this, List.map_nil, List.append_nil]
              rfl
            rw [refNames, e] at go
            refine Ev.step (fun k => ?_) go
            rw [sorrelref02_Vars.l0, if_pos (by omega), if_pos (by omega), ea, if_neg h3, w64 _ (by omega)]
            rfl
        · exact fin i h2 (by omega)
    exact loop _ 0 (Nat.le_refl _) (by omega)
  · rw [if_neg hc]
    exact Ev.congr (fun k => if_neg hc) (Ev.now _)
theorem sameTexts_ev (xs : List ByteArray) (h : xs.length ≤ 1000000) : Ev (fun k => sorrelref02_SameTexts.f k xs xs) true := by
  unfold sorrelref02_SameTexts.f
  refine Ev.congr (fun k => if_pos rfl) ?_
  have fin : ∀ i : Nat, xs.length ≤ i → Ev (fun k => sorrelref02_SameTexts.l0 k xs xs (i : Int)) true := fun i hi => Ev.last fun k => by
    rw [sorrelref02_SameTexts.l0, if_neg (by omega)]
  have loop : ∀ (n i : Nat), xs.length - i ≤ n → Ev (fun k => sorrelref02_SameTexts.l0 k xs xs (i : Int)) true := by
    intro n
    induction n with
    | zero => intro i h1; exact fin i (by omega)
    | succ n ih =>
      intro i h1
      by_cases hi : i < xs.length
      · refine Ev.step (fun k => ?_) (ih (i + 1) (by omega))
        rw [sorrelref02_SameTexts.l0, if_pos (by omega), if_pos (by omega), if_pos (by omega), if_pos rfl, w64 _ (by omega)]
        rfl
      · exact fin i (by omega)
  exact loop _ 0 (Nat.le_refl _)
end Go.Proofs.YtacjjfoelhckcaaDoor.PExprPlays

namespace Go.Proofs.YtacjjfoelhckcaaDoor.exprPlays
set_option linter.unusedVariables false
open Go.RowKit Go.Proofs.YtacjjfoelhckcaaDoorW.PrintWords PExprPlays

theorem awake_ev : Ev (fun k => sorrellaw02_awake.f k) true := by
  unfold sorrellaw02_awake.f
  have hm : Ev (fun k => expr_Make.f k 1 7 (⟨#[]⟩ : ByteArray) ([] : List (List (S45)))) ([⟨1, 7, ⟨#[]⟩, []⟩], 0) := by
    unfold expr_Make.f
    have hst : Ev (fun k => expr_Make.l0 (k + 1) ([] : List (S45)) 1 ([] : List (List S45)) (([] : List (List S45)).length : Int) 0 1 7 (⟨#[]⟩ : ByteArray) ([] : List Int)) ([⟨1, 7, ⟨#[]⟩, []⟩], 0) := by
      simp only [expr_Make.l0]
      refine Ev.congr (fun k => if_neg (by simp)) ?_
      refine Ev.bind (sound_ev 1 7 ⟨#[]⟩ []) ?_
      refine Ev.congr (fun k => if_pos (by decide +kernel)) ?_
      exact Ev.pure fun k => rfl
    exact Ev.step (fun _ => rfl) hst
  refine Ev.bind hm ?_
  exact Ev.pure fun k => rfl
open Classical in
theorem same_yes (l : List S45) (hl : l.length ≤ 2513169434843) (hk : ∀ x ∈ l, okE x) : Ev (fun k => sorrelref02_Same.f k l l) true := by
  have := same_dec l l (by omega) (fun x hx => by have := (hk x hx).kids; omega)
  rw [decide_eq_true rfl] at this
  exact this
theorem both_part (l : List S45) (hl : l.length ≤ 2513169434843) (hk : ∀ x ∈ l, okE x) (i : Int) : ∃ p : List S45 × Int, Ev (fun k => expr_Part.f k l i) p ∧ Ev (fun k => sorrelref02_Part.f k l i) p ∧ p.1.length ≤ 64 ∧ ∀ x ∈ p.1, okE x := by
  by_cases hc : checkE l = 0
  · by_cases hi : i < 0 ∨ (l.length : Int) ≤ i
    · exact ⟨_, part_arg l hk hc i hi, refPart_arg l hl hk hc i hi, by simp, by simp⟩
    · obtain ⟨t, hok, hs, rfl⟩ := checkE_tree hc
      have hlt := flat_len 0 t
      obtain ⟨s, b, hat, hib⟩ := at_of t 0 i.toNat (by omega) (by omega)
      have hsp := size_pos s
      have hr := hat.range
      have ei : i = ((b + s.size - 1 : Nat) : Int) := by omega
      have h1 := part_ev t hok hs hk s b hat
      have h2 := refPart_ev t hok hs hk s b hat
      rw [← ei] at h1 h2
      exact ⟨_, h1, h2, by rw [flat_len]; omega, ok_at hat hs hk⟩
  · exact ⟨_, part_form l hk hc i, refPart_form l hl hk hc i, by simp, by simp⟩
theorem both_put (l m : List S45) (hl : l.length ≤ 2513169434843) (hml : m.length ≤ 2513169434843) (hk : ∀ x ∈ l, okE x) (hmk : ∀ x ∈ m, okE x) (i : Int) : ∃ p : List S45 × Int, Ev (fun k => expr_Put.f k l i m) p ∧ Ev (fun k => sorrelref02_Put.f k l i m) p ∧ p.1.length ≤ 64 ∧ ∀ x ∈ p.1, okE x := by
  by_cases hc : checkE l = 0 ∧ checkE m = 0
  · obtain ⟨hc, hm⟩ := hc
    by_cases hi : i < 0 ∨ (l.length : Int) ≤ i
    · exact ⟨_, put_arg l m hk hmk hc hm i hi, refPut_arg l m hl hml hk hmk hc hm i hi, by simp, by simp⟩
    · obtain ⟨t, hok, hs, rfl⟩ := checkE_tree hc
      obtain ⟨mt, hmok, hms, rfl⟩ := checkE_tree hm
      have hlt := flat_len 0 t
      obtain ⟨s, b, hat, hib⟩ := at_of t 0 i.toNat (by omega) (by omega)
      have hsp := size_pos s
      have hr := hat.range
      have ei : i = ((b + s.size - 1 : Nat) : Int) := by omega
      obtain ⟨u, hrep⟩ := hat.rep mt
      have h1 := put_ev t hok hs hk mt hmok hms hmk s u b hrep
      have h2 := refPut_ev t hok hs hk mt hmok hms hmk s u b hrep
      rw [← ei] at h1 h2
      refine ⟨_, h1, h2, ?_, ?_⟩
      · split
        · rename_i hu
          rw [flat_len]; exact hu
        · simp
      · split
        · exact ok_rep hrep hs hms hk hmk
        · simp
  · have hc' : checkE l ≠ 0 ∨ checkE m ≠ 0 := by
      by_cases h : checkE l = 0
      · exact .inr fun h2 => hc ⟨h, h2⟩
      · exact .inl h
    exact ⟨_, put_form l m hk hmk hc' i, refPut_form l m hl hml hk hmk hc' i, by simp, by simp⟩
theorem both_depth (l : List S45) (hl : l.length ≤ 2513169434843) (hk : ∀ x ∈ l, okE x) : ∃ p : Int × Int, Ev (fun k => expr_Depth.f k l) p ∧ Ev (fun k => sorrelref02_Depth.f k l) p := by
  by_cases hc : checkE l = 0
  · obtain ⟨t, hok, hs, rfl⟩ := checkE_tree hc
    exact ⟨_, depth_ev t hok hs hk, refDepth_ev t hok hs hk⟩
  · exact ⟨_, depth_bad l hk hc, refDepth_bad l hl hk hc⟩
theorem law_ev (l : List S45) (i : Int) (m : List S45) (hlen : l.length ≤ 2513169434843) (hmlen : m.length ≤ 2513169434843) (hk : ∀ x ∈ l, okE x) (hmk : ∀ x ∈ m, okE x) : Ev (fun k => sorrellaw02_ExprPlays.f k l i m) true := by
  have hcp := copy_ev l hlen hk
  have hcpm := copy_ev m hmlen hmk
  have j2 : Ev (fun k => sorrellaw02_ExprPlays.j2 k l (!true)) true := by
    obtain ⟨p, d1, d2⟩ := both_depth l hlen hk
    have v1 := vars_ev l hk
    have v2 := refVars_ev l hk hlen
    have hst : Ev (fun k => sorrellaw02_ExprPlays.j2 (k + 1) l (!true)) true := by
      simp only [sorrellaw02_ExprPlays.j2]
      refine Ev.congr (fun k => if_neg (by decide)) ?_
      refine Ev.bind hcp (Ev.bind d1 (Ev.bind d2 (Ev.bind hcp (Ev.bind v1 (Ev.bind v2 ?_)))))
      refine Ev.congr (fun k => if_pos rfl) (Ev.congr (fun k => if_pos rfl) (Ev.congr (fun k => if_pos rfl) ?_))
      refine Ev.bind (sameTexts_ev _ ?_) (Ev.now _)
      by_cases hc : checkE l = 0
      · rw [if_pos hc]
        have h1 := names_len l
        obtain ⟨t, hok, hs, e⟩ := checkE_tree hc
        have h2 := flat_len 0 t
        show (namesL l).length ≤ _
        rw [e] at h1 ⊢
        omega
      · rw [if_neg hc]; simp
    exact Ev.step (fun _ => rfl) hst
  have j1 : Ev (fun k => sorrellaw02_ExprPlays.j1 k l i m (!true)) true := by
    obtain ⟨p, p1, p2, hp, hpk⟩ := both_put l m hlen hmlen hk hmk i
    have hst : Ev (fun k => sorrellaw02_ExprPlays.j1 (k + 1) l i m (!true)) true := by
      simp only [sorrellaw02_ExprPlays.j1]
      refine Ev.congr (fun k => if_neg (by decide)) ?_
      refine Ev.bind hcp (Ev.bind hcpm (Ev.bind p1 (Ev.bind p2 (Ev.congr (fun k => if_pos rfl) ?_))))
      exact Ev.bind (same_yes _ (by omega) hpk) j2
    exact Ev.step (fun _ => rfl) hst
  have j0 : Ev (fun k => sorrellaw02_ExprPlays.j0 k l i m false) true := by
    obtain ⟨p, p1, p2, hp, hpk⟩ := both_part l hlen hk i
    have hst : Ev (fun k => sorrellaw02_ExprPlays.j0 (k + 1) l i m false) true := by
      simp only [sorrellaw02_ExprPlays.j0]
      refine Ev.congr (fun k => if_neg (by decide)) ?_
      refine Ev.bind hcp (Ev.bind p1 (Ev.bind p2 (Ev.congr (fun k => if_pos rfl) ?_)))
      exact Ev.bind (same_yes _ (by omega) hpk) j1
    exact Ev.step (fun _ => rfl) hst
  unfold sorrellaw02_ExprPlays.f
  refine Ev.bind awake_ev (Ev.congr (fun k => if_pos rfl) ?_)
  refine Ev.bind hcp (Ev.bind (check_ev l hk) (Ev.bind (refCheck_ev l hk hlen) ?_))
  have e : (checkE l != checkE l) = false := by simp
  rw [e]
  exact j0
theorem pure (l : List S45) (h : okR 56 (fun x : S45 => okN (x.f0, x.f1, x.f2, x.f3)) l) (i : Int) (hi : okI i) (m : List S45) (h2 : okR 56 (fun x : S45 => okN (x.f0, x.f1, x.f2, x.f3)) m) : ∃ k, sorrellaw02_ExprPlays.f k l i m = some true :=
  (law_ev l i m (by have := h.1; omega) (by have := h2.1; omega) h.2 h2.2).rounds
end Go.Proofs.YtacjjfoelhckcaaDoor.exprPlays
