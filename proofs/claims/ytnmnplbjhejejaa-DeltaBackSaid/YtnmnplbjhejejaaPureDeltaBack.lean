import Derived.Test.YtnmnplbjhejejaaPAx13
import Derived.Test.YtnmnplbjhejejaaDm
set_option linter.unusedVariables false
set_option linter.unusedSimpArgs false
namespace Go.Proofs.Ytnmnplbjhejejaa.Pure
open Go.RowKit Go.Proofs.Ytnmnplbjhejejaa.PA Go.Proofs.YtnmnplbjhejejaaW.PrintWords Go.Proofs.YtnmnplbjhejejaaW.PrintLast Go.Proofs.Ytnmnplbjhejejaa.Base Go.Proofs.Ytnmnplbjhejejaa.Vi Go.Proofs.Ytnmnplbjhejejaa.De Go.Proofs.Ytnmnplbjhejejaa.Dm

theorem DeltaBack : knapsacklaw06_DeltaBack.Pure := by
  intro a0 a1 h0 h1
  apply Ev.rounds
  obtain ⟨base, rfl⟩ := exB a0
  obtain ⟨text, rfl⟩ := exB a1
  unfold knapsacklaw06_DeltaBack.f
  have out : Ev (fun k => knapsacklaw06_DeltaBack.j0 k (mkB base) (mkB text) true) true := by
    refine Ev.step (fun k => by rw [knapsacklaw06_DeltaBack.j0]) ?_
    refine Base.Ev.ite_pos rfl ?_
    exact Ev.bind De.knows_ev (Ev.now _)
  by_cases hb : base.length ≤ 1500
  rotate_left
  · exact Base.Ev.ite_pos (by rw [mkB_size]; omega) out
  refine Base.Ev.ite_neg (by rw [mkB_size]; omega) ?_
  rw [mkB_size]
  by_cases ht : text.length ≤ 1500
  rotate_left
  · rw [show decide ((text.length : Int) > 1500) = true by simp; omega]; exact out
  rw [show decide ((text.length : Int) > 1500) = false by simp; omega]
  refine Ev.step (fun k => by rw [knapsacklaw06_DeltaBack.j0]) ?_
  refine Base.Ev.ite_neg (by simp) ?_
  obtain ⟨S, s1, s2, s3⟩ := steps_ev base text (by omega) (by omega)
  obtain ⟨O, o1, o2, _, o3⟩ := make_of base text S (by omega) (by omega) s1 s2 s3
  have e1 := enc_length10 base.length (by omega)
  have e2 := enc_length10 text.length (by omega)
  refine Ev.bind o1 ?_
  have hD : (enc base.length ++ enc text.length ++ O).length ≤ text.length + 30 := by simp only [List.length_append]; omega
  have a1 := appl_made base text O (by omega) (by omega) o2
  have a3 := appl_other base (base ++ [120]) text O (by omega) (by omega) (by simp)
  have a4 := sized_made base.length text.length O (by omega) (by omega)
  have a2 := appl_less base text O (by omega) (by omega)
  generalize enc base.length ++ enc text.length ++ O = D at *
  have q1 := apply_ev base D (text.length : Int) (by omega) (by omega) (by omega)
  have q2 := rapply_ev base D (text.length : Int) (by omega) (by omega) (by omega)
  have q3 := apply_ev base D ((text.length : Int) - 1) (by omega) (by omega) (by omega)
  have q4 := apply_ev (base ++ [120]) D (text.length : Int) (by simp; omega) (by omega) (by omega)
  have q5 := size_ev D (by omega)
  rw [a1] at q1 q2
  rw [a3] at q4
  rw [a4] at q5
  rw [mkB_size]
  refine Ev.bind (a := (mkB text, (0 : Int))) q1 ?_
  refine Ev.bind (a := (mkB text, (0 : Int))) q2 ?_
  dsimp only
  refine Base.Ev.ite_pos rfl ?_
  refine Base.Ev.ite_pos rfl ?_
  refine Base.Ev.ite_pos rfl ?_
  refine Base.Ev.ite_pos rfl ?_
  rw [mkB_size, w64 (by omega) (by omega), show decide ((D.length : Int) > (text.length : Int) + 30) = false by simp; omega]
  refine Ev.step (fun k => by rw [knapsacklaw06_DeltaBack.j1]) ?_
  refine Base.Ev.ite_neg (by simp) ?_
  rw [mkB_size, w64 (by omega) (by omega)]
  refine Ev.bind q3 ?_
  refine Base.Ev.ite_pos (by rw [mkB_size]; omega) ?_
  refine Ev.bind (a := (mkB [], (6 : Int))) (by rw [show (⟨#[120]⟩ : ByteArray) = mkB [120] from rfl, mkB_append]; exact q4) ?_
  refine Ev.bind (a := ((text.length : Int), (0 : Int))) q5 ?_
  dsimp only
  have own : Ev (fun k => knapsacklaw06_DeltaBack.j2 k (mkB base) ((0 : Int) != 0)) true := by
    refine Ev.step (fun k => by rw [knapsacklaw06_DeltaBack.j2]) ?_
    refine Base.Ev.ite_neg (by decide) ?_
    obtain ⟨S, s1, s2, s3⟩ := own_ev base (by omega)
    obtain ⟨O, o1, o2, o3, _⟩ := make_of base base S (by omega) (by omega) s1 s2 (by omega)
    refine Ev.bind o1 ?_
    have hD : (enc base.length ++ enc base.length ++ O).length ≤ 40 := by simp only [List.length_append]; omega
    have a1 := appl_made base base O (by omega) (by omega) o2
    generalize enc base.length ++ enc base.length ++ O = D at *
    have q1 := apply_ev base D (base.length : Int) (by omega) (by omega) (by omega)
    rw [a1] at q1
    rw [mkB_size]
    refine Ev.bind (a := (mkB base, (0 : Int))) q1 ?_
    refine Ev.bind De.knows_ev ?_
    refine Base.Ev.ite_pos rfl ?_
    refine Base.Ev.ite_pos (by rw [mkB_size]; omega) ?_
    refine Base.Ev.ite_pos rfl ?_
    exact Ev.now _
  by_cases h0 : text = []
  · refine Base.Ev.ite_pos (by rw [mkB_toList]; exact h0) ?_
    refine Base.Ev.ite_pos rfl ?_
    refine Base.Ev.ite_pos rfl ?_
    exact own
  · refine Base.Ev.ite_neg (by rw [mkB_toList]; exact h0) ?_
    refine Base.Ev.ite_pos (by rw [a2 h0]; rfl) ?_
    refine Base.Ev.ite_pos rfl ?_
    refine Base.Ev.ite_pos rfl ?_
    exact own

end Go.Proofs.Ytnmnplbjhejejaa.Pure
