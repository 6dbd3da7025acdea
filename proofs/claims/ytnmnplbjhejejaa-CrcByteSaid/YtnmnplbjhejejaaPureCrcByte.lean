/- CrcByte: for every text, every place and every byte, what was sealed is opened, and with one byte of it another one it is not. No condition. -/
import Derived.Test.YtnmnplbjhejejaaCr
import Derived.Test.YtnmnplbjhejejaaPAx4
set_option linter.unusedVariables false
namespace Go.Proofs.Ytnmnplbjhejejaa.Pure
open Go.RowKit Go.Proofs.YtnmnplbjhejejaaW.PrintWords Go.Proofs.YtnmnplbjhejejaaW.PrintLast Go.Proofs.YtnmnplbjhejejaaW.PrintMore Go.Proofs.Ytnmnplbjhejejaa.PA Go.Proofs.Ytnmnplbjhejejaa.Base Go.Proofs.Ytnmnplbjhejejaa.Cr

theorem u32_of {a : Int} (h : (Lit.int .u32 a).wf = true) : 0 ≤ a ∧ a < 4294967296 := by
  simp [Lit.wf, IntKind.min, IntKind.max, IntKind.signed, IntKind.bits] at h
  omega
theorem u8_of {a : Int} (h : (Lit.int .u8 a).wf = true) : 0 ≤ a ∧ a < 256 := by
  simp [Lit.wf, IntKind.min, IntKind.max, IntKind.signed, IntKind.bits] at h
  omega
theorem xor_u8 (x : UInt8) (b : Nat) (hb : b < 256) : strOfNums [Go.bits .xor .u8 (x.toNat : Int) (b : Int)] = mkB [x ^^^ UInt8.ofNat b] := by
  rw [u8_xor_nat _ _ (by exact x.toNat_lt) hb]
  have := mkB_nums [x.toNat ^^^ b]
  refine this.trans ?_
  congr 1
  simp only [List.map_cons, List.map_nil, List.cons.injEq, and_true]
  apply UInt8.toNat_inj.1
  rw [UInt8.toNat_xor, Base.ofNat_toNat b hb, Base.ofNat_toNat]
  exact Nat.xor_lt_two_pow (n := 8) x.toNat_lt hb
theorem CrcByte : knapsacklaw03_CrcByte.Pure := by
  intro s a b hs ha hb
  obtain ⟨a0, a1⟩ := u32_of ha
  obtain ⟨b0, b1⟩ := u8_of hb
  obtain ⟨a, rfl⟩ := Int.eq_ofNat_of_zero_le a0
  obtain ⟨b, rfl⟩ := Int.eq_ofNat_of_zero_le b0
  obtain ⟨s, rfl⟩ := exB s
  rw [mkB_size] at hs
  have hl := seal_length s
  apply Ev.rounds
  unfold knapsacklaw03_CrcByte.f
  refine Ev.bind (seal_ev s (by omega)) ?_
  have e1 := open_ev (seal_ s) (by omega)
  rw [open_seal] at e1
  refine Ev.bind e1 ?_
  refine Base.Ev.ite_pos (by rw [mkB_size, mkB_size, w64 (by omega) (by omega)]; omega) ?_
  refine Base.Ev.ite_pos rfl ?_
  refine Ev.step (fun k => by rw [knapsacklaw03_CrcByte.j0]) ?_
  refine Base.Ev.ite_neg (by simp [opened]) ?_
  refine Base.Ev.ite_neg (by rw [mkB_size]; omega) ?_
  obtain ⟨i, hi, hil⟩ : ∃ i : Nat, Int.tmod (wrap64 (a : Int)) ((mkB (seal_ s)).size : Int) = (i : Int) ∧ i < (seal_ s).length := by
    refine ⟨a % (seal_ s).length, ?_, Nat.mod_lt _ (by omega)⟩
    rw [w64 (by omega) (by omega), mkB_size, tmod_nat]
  simp only [hi]
  refine Base.Ev.ite_pos (by omega) ?_
  refine Base.Ev.ite_pos (by rw [mkB_size]; omega) ?_
  refine Base.Ev.ite_pos (by rw [mkB_size]; omega) ?_
  refine Base.Ev.pure_bind ?_
  have e2 : strOfNums [Go.bits .xor .u8 (bt (mkB (seal_ s)) (i : Int)) (b : Int)] = mkB [(seal_ s)[i] ^^^ UInt8.ofNat b] := by
    rw [mkB_bt _ i hil, xor_u8 _ b (by omega)]
  have e3 : (mkB (seal_ s)).extract 0 ((i : Int)).toNat = mkB ((seal_ s).take i) := by rw [Int.toNat_natCast, mkB_take]
  have e4 : wrap64 ((i : Int) + 1) = ((i + 1 : Nat) : Int) := by rw [w64 (by omega) (by omega)]; omega
  have e5 : (mkB (seal_ s)).extract (((i + 1 : Nat) : Int)).toNat (mkB (seal_ s)).size = mkB ((seal_ s).drop (i + 1)) := by rw [Int.toNat_natCast, mkB_drop]
  rw [e4]
  refine Base.Ev.ite_pos (by rw [e2, e3, mkB_size, mkB_size]; simp; omega) ?_
  refine Base.Ev.ite_pos (by omega) ?_
  refine Base.Ev.ite_pos (by rw [mkB_size]; omega) ?_
  refine Base.Ev.ite_pos (by rw [e2, e3, e5, mkB_append, mkB_size, mkB_size]; simp; omega) ?_
  rw [e2, e3, e5, mkB_append, mkB_append, List.append_assoc, List.singleton_append]
  have hsp : seal_ s = (seal_ s).take i ++ (seal_ s)[i] :: (seal_ s).drop (i + 1) := by
    rw [← List.drop_eq_getElem_cons hil, List.take_append_drop]
  have hlen : ((seal_ s).take i ++ ((seal_ s)[i] ^^^ UInt8.ofNat b) :: (seal_ s).drop (i + 1)).length ≤ 9223372036854775000 := by
    simp; omega
  by_cases hb0 : b = 0
  · subst hb0
    have e6 : (seal_ s)[i] ^^^ UInt8.ofNat 0 = (seal_ s)[i] := by simp
    rw [e6, ← hsp]
    refine Ev.bind e1 ?_
    refine Ev.bind knows_ev ?_
    refine Base.Ev.ite_pos rfl ?_
    refine Base.Ev.ite_pos rfl ?_
    refine Base.Ev.ite_pos rfl ?_
    exact Base.Ev.ite_pos rfl (Ev.now _)
  · have hne : (seal_ s)[i] ≠ (seal_ s)[i] ^^^ UInt8.ofNat b := by
      intro h
      have h2 := congrArg (fun z => (seal_ s)[i] ^^^ z) h
      simp only [UInt8.xor_self, ← UInt8.xor_assoc, UInt8.zero_xor] at h2
      have h3 := congrArg UInt8.toNat h2
      rw [Base.ofNat_toNat b (by omega)] at h3
      exact hb0 h3.symm
    have e7 := open_ev _ hlen
    rw [open_turned s _ _ _ _ hsp hne] at e7
    refine Ev.bind e7 ?_
    refine Ev.bind knows_ev ?_
    refine Base.Ev.ite_pos rfl ?_
    refine Base.Ev.ite_neg (by omega) ?_
    refine Base.Ev.ite_pos rfl ?_
    refine Base.Ev.eq ?_ (Ev.now _)
    simp only [opened]
    rw [mkB_toList]; rfl
end Go.Proofs.Ytnmnplbjhejejaa.Pure
