/- The law's same and knows. -/
import Derived.Test.YtaibcfghokhghaaDk6
set_option linter.unusedVariables false
set_option linter.unusedSimpArgs false
namespace Go.Proofs.Ytaibcfghokhghaa.Dk
open Go.RowKit Go.Proofs.Ytaibcfghokhghaa.Lk Go.Proofs.YtaibcfghokhghaaW.PrintWords Go.Proofs.YtaibcfghokhghaaW.PrintLast Go.Proofs.YtaibcfghokhghaaW.PrintMore Go.Proofs.Ytaibcfghokhghaa.PA
attribute [local go_sem] max2_int min2_int max_two min_two max_three min_three max_four min_four

instance (l : List File) (name : ByteArray) (p : Nat) : Decidable (Lower l name p) := by unfold Lower; infer_instance
/-- The files are the document's, and each is found at its place. -/
structure SameOk (D M : Dsk) : Prop where
  l : D.l = M.l
  down : D.down = M.down
  len : D.l.length ≤ 100000
  low : ∀ i, (h : i < D.l.length) → Lower D.l D.l[i].1 i
theorem getF_at {D : Dsk} {i : Nat} (hd : D.down = false) (h : i < D.l.length) : getF D D.l[i].1 i = (D.l[i].2, true) := by
  have key : ∀ x : List UInt8, Lib.compareBytes x x = 0 := by
    intro x
    induction x with
    | nil => rfl
    | cons c x ih =>
      simp only [Lib.compareBytes]
      rw [if_neg (by exact UInt8.lt_irrefl c), if_neg (by exact UInt8.lt_irrefl c)]
      exact ih
  have hat : isAt D.l D.l[i].1 i = true := by
    unfold isAt
    rw [List.getElem?_eq_getElem h]
    exact decide_eq_true (key _)
  unfold getF
  rw [if_neg (by rw [hd]; simp), if_pos hat, List.getD_eq_getElem?_getD, List.getElem?_eq_getElem h]
  rfl
theorem scells_at (l : List ByteArray) (j : Nat) (h : j < l.length) : (scells l)[j]? = some (.string l[j]) := by simp [scells, h]
theorem down_quiet {w5 : World} {b : Nat} {lv : Value} {D : Dsk} {x : Bool} (h : IsDisk w5 b lv D) (hx : D.down = x) (n : Nat) :
    Calls Try.prog 17 #[.pointer (some ⟨b, 0, none⟩)] (w5.drewN n) fun e w'' => e = .returned (.bool x) ∧ ∃ m, w'' = w5.drewN m := by
  have := Calls.quiet_of_same (down_calls _ b lv D (h.drewN n))
  rw [hx] at this
  exact this
set_option maxHeartbeats 4000000 in
set_option maxRecDepth 100000 in
theorem same_calls (w : World) (bd : Nat) (lv : Value) (bm : Nat) (mv : Value) (D M : Dsk) (hd : IsDisk w bd lv D) (hm : IsRef w bm mv M) (hs : SameOk D M) :
    Calls Try.prog 9 #[.pointer (some ⟨bd, 0, none⟩), .pointer (some ⟨bm, 0, none⟩)] w fun e w' => e = .returned (.bool true) ∧ Below w.heap.size w w' := by
  have HD := Aside0.mk hd
  have HM := Aside0.mk hm
  have HS := Aside0.mk hs
  have hlen := hs.len
  cases hdn : D.down with
  | true =>
    have HN := Aside0.mk (show namesF D = [] by unfold namesF; rw [if_pos hdn])
    have HMD := Aside0.mk (show M.down = true by rw [← hs.down]; exact hdn)
    have HDD := Aside0.mk hdn
    clear hd hm hs hdn
    go_enter Try.func9, Try.ntmps9
    go_wp2_with (go_at_call 15; refine (names_calls _ bd lv D HD.out hlen).mono ?_; rintro e w5 ⟨nv, rfl, hR5, hB5, hF5⟩; rw [HN.out] at hR5; obtain ⟨A5, c5, rfl, _, _⟩ := hR5.form; have HB5 := Aside0.mk hB5; have hm3 := (HM.out.below hB5).facts.2.2.2.1; rw [HMD.out] at hm3; have HD5 := Aside0.mk (HD.out.below hB5); clear hR5 hB5 hF5)
    have HQ := Aside0.mk (fun n => down_quiet HD5.out HDD.out n)
    go_quiet ((go_at_call 17; (with_reducible exact HQ.out _)))
    go_wp2
    go_ret
    exact ⟨rfl, pw_below_drewN HB5.out _⟩
  | false =>
    have HN := Aside0.mk (show namesF D = D.l.map Prod.fst by unfold namesF; rw [if_neg (by rw [hdn]; simp)])
    have HMD := Aside0.mk (show M.down = false by rw [← hs.down]; exact hdn)
    have HDD := Aside0.mk hdn
    have HML := Aside0.mk (show M.l.length = D.l.length by rw [hs.l])
    have hrow := hm.row
    rw [← hs.l] at hrow
    have HROW := Aside0.mk hrow
    obtain ⟨A, c, rfl, hlc, _⟩ := hrow.form
    clear hd hm hs hdn hrow
    go_enter Try.func9, Try.ntmps9
    go_wp2_with (go_at_call 15; refine (names_calls _ bd lv D HD.out hlen).mono ?_; rintro e w5 ⟨nv, rfl, hR5, hB5, hF5⟩; rw [HN.out, List.length_map] at hR5; obtain ⟨A5, c5, rfl, hn5, _⟩ := hR5.form; have HB5 := Aside0.mk hB5; have hm3 := (HM.out.below hB5).facts.2.2.2.1; rw [HMD.out] at hm3; have hm0 := (HM.out.below hB5).facts.1; have HD5 := Aside0.mk (HD.out.below hB5); have HR5 := Aside0.mk hR5; clear hR5 hB5 hF5)
    have HQ := Aside0.mk (fun n => down_quiet HD5.out HDD.out n)
    go_quiet ((go_at_call 17; (with_reducible exact HQ.out _)))
    go_wp2
    clear hm0 hm3
    go_loopw [6] (fun v6 w' => ∃ k : Nat, v6 = .int .i64 (k : Int) ∧ k ≤ D.l.length ∧ Aside0 (Below w5.heap.size w5 w')) (fun v6 _ => D.l.length - (intOf v6).toNat)
    case atStart => exact ⟨0, rfl, Nat.zero_le _, ⟨pw_below_drewN (Below.refl _ _) _⟩⟩
    case round =>
      obtain ⟨k, rfl, hk, HB⟩ := hrel
      by_cases hlt : k < D.l.length
      · have e1 : decide ((k : Int) < (D.l.length : Int)) = true := decide_eq_true (by omega)
        have e2 : (0 : Int) ≤ (k : Int) := by omega
        have e3 : (k : Int) < (D.l.length : Int) := by omega
        have hr5 := HR5.out
        obtain ⟨g5, off5, cap5, hA5, _, _⟩ := hr5.form2 (by omega)
        simp only [Value.slice.injEq, true_and] at hA5
        obtain ⟨rfl, rfl⟩ := hA5
        have hn := scells_at (D.l.map Prod.fst) k (by rw [List.length_map]; exact hlt)
        rw [List.getElem_map] at hn
        have hrow := HROW.out
        obtain ⟨g3, off3, cap3, hA3, _, _⟩ := hrow.form2 (by omega)
        simp only [Value.slice.injEq, true_and] at hA3
        obtain ⟨rfl, rfl⟩ := hA3
        have HG := Aside0.mk (getF_at HDD.out hlt)
        have HL := Aside0.mk (HS.out.low k hlt)
        obtain ⟨h1, h2⟩ := fcells_at D.l k hlt
        obtain ⟨nm, hnm⟩ : ∃ nm, D.l[k].1 = nm := ⟨_, rfl⟩
        obtain ⟨dt, hdt⟩ : ∃ dt, D.l[k].2 = dt := ⟨_, rfl⟩
        rw [hnm] at hn HG HL h1
        rw [hdt] at HG h2
        have y5 := (Rw.below hr5 HB.out).cell hn
        have HY := Aside0.mk (show ∀ W, Below wr.heap.size wr W → W.cell? ⟨g5, off5 + k, none⟩ = some (.string nm) ∧ W.cell? ⟨g3, off3 + k * 2, none⟩ = some (.string nm) ∧ W.cell? ⟨g3, off3 + k * 2 + 1, none⟩ = some (.string dt) ∧ W.cell? ⟨bm, 0, none⟩ = some (.slice (some ⟨g3, off3, none⟩) D.l.length c) by
          intro W hW
          have hb : Below w5.heap.size w5 W := HB.out.trans (hW.mono HB.out.size)
          have hb0 : Below w.heap.size w W := HB5.out.trans (hb.mono HB5.out.size)
          refine ⟨(Rw.below hr5 hb).cell hn, (Rw.below hrow hb0).cell h1, ?_, (HM.out.below hb0).facts.1⟩
          rw [Nat.add_assoc]
          exact (Rw.below hrow hb0).cell h2)
        clear hr5 hn hrow h1 h2 hnm hdt
        go_wp2_with (go_at_call 16; refine (get_calls _ bd lv D nm k (HD5.out.below HB.out) hlen HL.out).mono ?_; rintro e w6 ⟨rfl, hb6⟩; rw [HG.out]; obtain ⟨z1, z2, z3, z4⟩ := HY.out w6 hb6; have HB6 := Aside0.mk (HB.out.trans (hb6.mono HB.out.size)); clear hb6 y5)
        go_quiet (fail)
        go_wp2
        go_roundw
        case rel => exact ⟨k + 1, by go_num, by omega, ⟨pw_below_drewN HB6.out _⟩⟩
        case measure => simp [intOf]; omega
      · have e1 : decide ((k : Int) < (D.l.length : Int)) = false := decide_eq_false (by omega)
        go_wp2
        go_ret
        exact ⟨rfl, HB5.out.trans (HB.out.mono HB5.out.size)⟩
end Go.Proofs.Ytaibcfghokhghaa.Dk
