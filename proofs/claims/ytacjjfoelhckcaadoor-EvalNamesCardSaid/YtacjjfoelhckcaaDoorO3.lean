/- What a row of bindings opens to. -/
import Derived.Test.YtacjjfoelhckcaaDoorO2
namespace Go.Proofs.YtacjjfoelhckcaaDoor
open Go.RowKit Go.Proofs.YtacjjfoelhckcaaDoorW.PrintWords

theorem opens_struct2 {α0 α1 : Type} {P : Program} {d0 : Kd α0} {d1 : Kd α1} {t t0 t1 : TypeId} {fs : Array Field} {ok0 : α0 → Prop} {ok1 : α1 → Prop}
    (ht : P.underlying t = some (.struct fs)) (hfs : fs.toList.map (fun f => (f.type, f.offset)) = [(t0, 0), (t1, 1)]) (hc : P.cellsOf t = 2) (c0 : P.cellsOf t0 = 1) (c1 : P.cellsOf t1 = 1) (o0 : Opens P d0 t0 ok0) (o1 : Opens P d1 t1 ok1) :
    Opens P (Kd.pair d0 d1) t (fun x => ok0 x.1 ∧ ok1 x.2) := by
  intro H enc W sp fuel cs y h hw
  cases fuel with
  | zero => simp [DataW.trod] at h
  | succ fuel =>
    obtain ⟨F0, F1, hF⟩ : ∃ F0 F1, fs.toList = [F0, F1] := by
      match hl : fs.toList with
      | [a, b] => exact ⟨a, b, rfl⟩
      | [] => simp [hl] at hfs
      | [_] => simp [hl] at hfs
      | _ :: _ :: _ :: _ => simp [hl] at hfs
    rw [hF] at hfs
    simp only [List.map_cons, List.map_nil, List.cons.injEq, Prod.mk.injEq, and_true] at hfs
    obtain ⟨⟨rfl, e0⟩, rfl, e1⟩ := hfs
    simp only [DataW.trod, ht] at h
    split at h
    · rename_i hl
      rw [hc] at hl
      obtain ⟨x0, x1, rfl⟩ : ∃ x0 x1, cs = [x0, x1] := by
        match cs, hl with
        | [a, b], _ => exact ⟨a, b, rfl⟩
      rw [hF] at h
      simp only [Option.map_eq_some_iff, List.mapM_cons, List.mapM_nil, Option.bind_eq_bind, Option.bind_eq_some_iff, Option.pure_def, Option.some.injEq, e0, e1, c0, c1, List.drop_zero, List.drop_succ_cons, List.take_succ_cons, List.take_zero] at h
      obtain ⟨xs, ⟨y0, h0, _, ⟨y1, h1, _, rfl, rfl⟩, rfl⟩, rfl⟩ := h
      rw [DataW.weights] at hw
      simp only [ht, hF, List.map_cons, List.map_nil, DataW.weightsEach, List.all_append, Bool.and_eq_true, List.append_nil] at hw
      obtain ⟨w0, w1⟩ := hw
      obtain ⟨v0, k0, q0⟩ := o0 enc W sp fuel _ _ h0 w0
      obtain ⟨v1, k1, q1⟩ := o1 enc W sp fuel _ _ h1 (by simpa using w1)
      exact ⟨(v0, v1), ⟨[x0], _, rfl, k0, k1⟩, q0, q1⟩
    · cases h
theorem cells70 : Tryd.prog.cellsOf 70 = 2 := by kernel_rfl
theorem bytes70 : Tryd.prog.bytesOf 70 = 24 := by kernel_rfl
theorem opens70 : Opens Tryd.prog (Kd.pair Kd.string (Kd.int .i64)) 70 (fun x => okS x.1 ∧ okI x.2) := opens_struct2 Tryd.underlying70 rfl cells70 cells9 cells2 opens9 opens2
end Go.Proofs.YtacjjfoelhckcaaDoor
