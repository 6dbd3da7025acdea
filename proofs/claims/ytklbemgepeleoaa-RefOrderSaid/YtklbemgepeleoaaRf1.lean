/- Arguments with arrays of bytes in them, opened. Plain lemmas over whatever program. -/
import Derived.Test.YtklbemgepeleoaaOpens
import Derived.Test.YtklbemgepeleoaaRf0
set_option linter.unusedVariables false
set_option linter.unusedSimpArgs false
namespace Go.Proofs.Ytklbemgepeleoaa.Rf
open Go.ChangeShapes Go.WideShapes Go.RowKit Go.Deep Go.Proofs.YtklbemgepeleoaaW.PrintWords Go.Proofs.YtklbemgepeleoaaW.PrintLast Go.Proofs.YtklbemgepeleoaaW.PrintMore
section
variable {H : Type} {enc : TypeId × Value → H} {P : Program} {w : World}
def GoodId (x : List Int) : Prop := x.length = 32 ∧ ∀ i ∈ x, (Lit.int .u8 i).wf = true
theorem opens_bytes {T e : TypeId} {n : Nat} (ht : P.underlying T = some (.array n e)) (he : P.underlying e = some (.int .u8)) (hc : P.cellsOf e = 1) (hT : P.cellsOf T = n) :
    Opens.Opens enc P w T (fun (x : List Int) cs => cs = idc x ∧ x.length = n) (fun x => ∀ i ∈ x, (Lit.int .u8 i).wf = true) := by
  intro fuel cs y h
  obtain ⟨xs, m, _, _, hl, hxl, hel⟩ := DataW.trod_array ht h
  rw [hT] at hl
  have key : ∀ j, j ≤ n → ∃ x : List Int, x.length = j ∧ (∀ i ∈ x, (Lit.int .u8 i).wf = true) ∧ cs.take j = idc x := by
    intro j
    induction j with
    | zero => intro _; exact ⟨[], rfl, by simp, by simp [idc]⟩
    | succ j ih =>
      intro hj
      obtain ⟨x, h1, h2, h3⟩ := ih (by omega)
      have hj2 := hel j (by omega)
      rw [hc, Nat.mul_one, List.getElem?_eq_getElem (by omega)] at hj2
      obtain ⟨k, hk, _, hw⟩ := DataW.trod_int he hj2
      refine ⟨x ++ [k], by simp [h1], ?_, ?_⟩
      · intro i hi
        rcases List.mem_append.mp hi with hi | hi
        · exact h2 i hi
        · simp at hi; rw [hi]; exact hw
      · rw [List.take_add, h3, hk]
        simp [idc]
  obtain ⟨x, h1, h2, h3⟩ := key n (Nat.le_refl _)
  rw [List.take_of_length_le (by omega)] at h3
  exact ⟨x, ⟨h3, h1⟩, h2⟩
/-- A name and an id. -/
theorem opens_ref {T Ts Ti e : TypeId} {f0 f1 : Field} (ht : P.underlying T = some (.struct #[f0, f1])) (h0 : f0.type = Ts) (h1 : f1.type = Ti) (o0 : f0.offset = 0) (o1 : f1.offset = 1) (hs : P.underlying Ts = some .string) (hi : P.underlying Ti = some (.array 32 e)) (he : P.underlying e = some (.int .u8)) (hc : P.cellsOf e = 1) (hci : P.cellsOf Ti = 32) (hcs : P.cellsOf Ts = 1) (hcT : P.cellsOf T = 33) :
    Opens.Opens enc P w T (kRef.K w) (fun x => x.1.size ≤ 9223372036854775807 ∧ GoodId x.2) := by
  intro fuel cs y h
  obtain ⟨xs, n, rfl, _, hlen, hxl, hf⟩ := DataW.trod_struct ht h
  have hl : cs.length = 33 := hlen.trans hcT
  obtain ⟨y0, k0⟩ := Opens.field_of hxl hf 0 _ rfl
  obtain ⟨y1, k1⟩ := Opens.field_of hxl hf 1 _ rfl
  have k0' : DataW.trod enc P w 0 (fun _ => true) true n f0.type ((cs.drop f0.offset).take (P.cellsOf f0.type)) = some y0 := k0
  have k1' : DataW.trod enc P w 0 (fun _ => true) true n f1.type ((cs.drop f1.offset).take (P.cellsOf f1.type)) = some y1 := k1
  rw [h0, o0, hcs] at k0'
  rw [h1, o1, hci] at k1'
  obtain ⟨s, e0, g0⟩ := Opens.Opens.string hs n _ _ k0'
  obtain ⟨x, ⟨e1, l1⟩, g1⟩ := opens_bytes hi he hc hci n _ _ k1'
  refine ⟨(s, x), ⟨?_, l1⟩, g0, l1, g1⟩
  have e0' : (cs.drop 0).take 1 = [.string s] := e0
  rw [List.drop_zero] at e0'
  rw [List.take_of_length_le (by rw [List.length_drop]; omega)] at e1
  show cs = Value.string s :: idc x
  rw [← List.take_append_drop 1 cs, e0', e1]
  rfl
/-- A name and two ids. -/
theorem opens_up {T Ts Ti e : TypeId} {f0 f1 f2 : Field} (ht : P.underlying T = some (.struct #[f0, f1, f2])) (h0 : f0.type = Ts) (h1 : f1.type = Ti) (h2 : f2.type = Ti) (o0 : f0.offset = 0) (o1 : f1.offset = 1) (o2 : f2.offset = 33) (hs : P.underlying Ts = some .string) (hi : P.underlying Ti = some (.array 32 e)) (he : P.underlying e = some (.int .u8)) (hc : P.cellsOf e = 1) (hci : P.cellsOf Ti = 32) (hcs : P.cellsOf Ts = 1) (hcT : P.cellsOf T = 65) :
    Opens.Opens enc P w T (kUp.K w) (fun x => x.1.size ≤ 9223372036854775807 ∧ GoodId x.2.1 ∧ GoodId x.2.2) := by
  intro fuel cs y h
  obtain ⟨xs, n, rfl, _, hlen, hxl, hf⟩ := DataW.trod_struct ht h
  have hl : cs.length = 65 := hlen.trans hcT
  obtain ⟨y0, k0⟩ := Opens.field_of hxl hf 0 _ rfl
  obtain ⟨y1, k1⟩ := Opens.field_of hxl hf 1 _ rfl
  obtain ⟨y2, k2⟩ := Opens.field_of hxl hf 2 _ rfl
  have k0' : DataW.trod enc P w 0 (fun _ => true) true n f0.type ((cs.drop f0.offset).take (P.cellsOf f0.type)) = some y0 := k0
  have k1' : DataW.trod enc P w 0 (fun _ => true) true n f1.type ((cs.drop f1.offset).take (P.cellsOf f1.type)) = some y1 := k1
  have k2' : DataW.trod enc P w 0 (fun _ => true) true n f2.type ((cs.drop f2.offset).take (P.cellsOf f2.type)) = some y2 := k2
  rw [h0, o0, hcs] at k0'
  rw [h1, o1, hci] at k1'
  rw [h2, o2, hci] at k2'
  obtain ⟨s, e0, g0⟩ := Opens.Opens.string hs n _ _ k0'
  obtain ⟨x, ⟨e1, l1⟩, g1⟩ := opens_bytes hi he hc hci n _ _ k1'
  obtain ⟨z, ⟨e2, l2⟩, g2⟩ := opens_bytes hi he hc hci n _ _ k2'
  refine ⟨(s, x, z), ⟨?_, l1, l2⟩, g0, ⟨l1, g1⟩, l2, g2⟩
  have e0' : (cs.drop 0).take 1 = [.string s] := e0
  rw [List.drop_zero] at e0'
  rw [List.take_of_length_le (by rw [List.length_drop]; omega)] at e2
  show cs = Value.string s :: (idc x ++ idc z)
  have e3 : cs.drop 1 = idc x ++ idc z := by
    rw [← List.take_append_drop 32 (cs.drop 1), e1, List.drop_drop, e2]
  rw [← List.take_append_drop 1 cs, e0', e3]
  rfl
end
end Go.Proofs.Ytklbemgepeleoaa.Rf
