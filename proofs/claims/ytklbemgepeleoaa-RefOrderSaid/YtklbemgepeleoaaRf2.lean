/- ref: == of ids; none. -/
import Derived.Test.YtklbemgepeleoaaPAx0
import Derived.Test.YtklbemgepeleoaaRf0
import Derived.Test.YtklbemgepeleoaaLk0
import Derived.Laws.StructEq
import Derived.Deep.MidRow
import Derived.Deep.WholeRow
set_option linter.unusedVariables false
set_option linter.unusedSimpArgs false
namespace Go.Proofs.Ytklbemgepeleoaa.Rf
open Go.RowKit Go.Proofs.Ytklbemgepeleoaa.Lk Go.Proofs.YtklbemgepeleoaaW.PrintWords Go.Proofs.YtklbemgepeleoaaW.PrintLast Go.Proofs.YtklbemgepeleoaaW.PrintMore
attribute [local go_sem] max2_int min2_int max_two min_two max_three min_three max_four min_four
abbrev idv (x : List Int) : Value := .agg (idc x).toArray
theorem all_eq : ∀ (xs ys : List Int), xs.length = ys.length → ((List.range xs.length).all fun i => xs.getD i 0 == ys.getD i 0) = decide (xs = ys)
  | [], [], _ => by simp
  | x :: xs, y :: ys, h => by
    have ih := all_eq xs ys (by simpa using h)
    rw [List.length_cons, List.range_succ_eq_map, List.all_cons, List.all_map]
    simp only [List.getD_cons_zero, Function.comp_def, List.getD_cons_succ, ih]
    by_cases e : x = y <;> simp [e]
  | [], _ :: _, h => by simp at h
  | _ :: _, [], h => by simp at h
theorem eq_ids {P : Program} (w : World) (d : Nat) (t e : TypeId) (n : Nat) (ht : P.underlying t = some (.array n e)) (he : P.underlying e = some (.int .u8)) (hsz : ∀ w, (sizeOf e).run P w = .ok 1 w)
    (xs ys : List Int) (hx : xs.length = n) (hy : ys.length = n) :
    (Op.equalIn (d + 2) t (idv xs) (idv ys)).run P w = .ok (decide (xs = ys)) w := by
  rw [← all_eq xs ys (hx.trans hy.symm), hx, List.range_eq_range', Op.equalIn]
  simp only [Sem.run_bind, run_underlying ht, Result.andThen_ok, hsz, Std.Legacy.Range.forIn_eq_forIn_range', Std.Legacy.Range.size, Nat.sub_zero, Nat.add_sub_cancel, Nat.div_one]
  have hl : ∀ i ∈ List.range' 0 n 1, i < n := fun i hi => by simpa using (List.mem_range'_1.1 hi).2
  generalize List.range' 0 n 1 = l at hl ⊢
  induction l with
  | nil => simp
  | cons i l ih =>
    have hi : i < n := hl i (by simp)
    have px : (part e (idc xs).toArray (i * 1)).run P w = .ok (.int .u8 (xs.getD i 0)) w := by
      simp [part, isAgg, run_underlying he, idc, List.getD, List.getElem?_eq_getElem (show i < xs.length by omega)]
    have py : (part e (idc ys).toArray (i * 1)).run P w = .ok (.int .u8 (ys.getD i 0)) w := by
      simp [part, isAgg, run_underlying he, idc, List.getD, List.getElem?_eq_getElem (show i < ys.length by omega)]
    have pe : (Op.equalIn (d + 1) e (.int .u8 (xs.getD i 0)) (.int .u8 (ys.getD i 0))).run P w = .ok (xs.getD i 0 == ys.getD i 0) w := run_equalIn_int w d e .u8 .u8 _ _ he
    simp only [List.forIn_cons, Sem.run_bind, px, py, pe, Result.andThen_ok, List.all_cons]
    cases hb : (xs.getD i 0 == ys.getD i 0)
    · simp
    · simp only [Bool.not_true, Bool.false_eq_true, if_false, Sem.run_pure, Result.andThen_ok, Bool.true_and]
      exact ih fun j hj => hl j (by simp [hj])
attribute [-simp] Try.isAgg37 Try.isAgg54 Try.isAgg39
attribute [-go_sem] Instr.loadAt
abbrev id0 : List Int := List.replicate 32 0
set_option maxHeartbeats 1000000 in
set_option maxRecDepth 100000 in
theorem none_calls (x : List Int) (hx : x.length = 32) (w : World) : Calls Try.prog 27 #[idv x] w fun e w' => e = .returned (.bool (decide (x = id0))) ∧ Below w.heap.size w w' := by
  have hi : (Try.prog.info? 37).map (·.size) = some (idc x).toArray.size := by rw [show (Try.prog.info? 37).map (·.size) = some 32 by kernel_rfl]; simp [idc, hx]
  have hu : Try.prog.underlying 37 = some (.array 32 5) := by kernel_rfl
  have hrun := run_loadAt_new w 37 (idc x).toArray 32 5 hu hi
  have heq : (Op.equalIn 10000 37 (.agg (idc x).toArray) (.agg #[.int .u8 0, .int .u8 0, .int .u8 0, .int .u8 0, .int .u8 0, .int .u8 0, .int .u8 0, .int .u8 0, .int .u8 0, .int .u8 0, .int .u8 0, .int .u8 0, .int .u8 0, .int .u8 0, .int .u8 0, .int .u8 0, .int .u8 0, .int .u8 0, .int .u8 0, .int .u8 0, .int .u8 0, .int .u8 0, .int .u8 0, .int .u8 0, .int .u8 0, .int .u8 0, .int .u8 0, .int .u8 0, .int .u8 0, .int .u8 0, .int .u8 0, .int .u8 0])).run Try.prog (w.alloc (.cells (idc x).toArray 37)) = .ok (decide (x = id0)) (w.alloc (.cells (idc x).toArray 37)) := eq_ids (P := Try.prog) (w.alloc (.cells (idc x).toArray 37)) 9998 37 5 32 hu (by kernel_rfl) (fun w => Try.sizeOf5 w) x id0 hx (by simp)
  clear hu hi
  go_enter Try.func27, Try.ntmps27
  go_wp2
  go_ret
  exact ⟨rfl, (Below.refl _ _).alloc (Nat.le_refl _) _⟩
end Go.Proofs.Ytklbemgepeleoaa.Rf
