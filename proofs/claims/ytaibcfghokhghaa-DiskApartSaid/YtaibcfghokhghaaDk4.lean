/- disk's Names, Copy, New. -/
import Derived.Test.YtaibcfghokhghaaDk3
set_option linter.unusedVariables false
set_option linter.unusedSimpArgs false
namespace Go.Proofs.Ytaibcfghokhghaa.Dk
open Go.RowKit Go.Proofs.Ytaibcfghokhghaa.Lk Go.Proofs.YtaibcfghokhghaaW.PrintWords Go.Proofs.YtaibcfghokhghaaW.PrintLast Go.Proofs.YtaibcfghokhghaaW.PrintMore
attribute [local go_sem] max2_int min2_int max_two min_two max_three min_three max_four min_four

theorem uS : Try.prog.underlying 39 = some (.slice 9) := by kernel_rfl
theorem infoS : (Try.prog.info? 9).map (fun i => (i.zero, i.size, i.bytes)) = some (some (.string ⟨#[]⟩), 1, 16) := by kernel_rfl
def scells (l : List ByteArray) : List Value := l.map Value.string
theorem news_new {W : World} {z : Nat} {v : Value} {t : TypeId} (hz : W.heap.size = z) : ∀ j u, [v][j]? = some u → (W.alloc (.cells #[v] t)).cell? ((⟨z, 0, none⟩ : Addr).add j) = some u := by
  subst hz
  intro j u hj
  match j with
  | 0 =>
    simp only [List.getElem?_cons_zero, Option.some.injEq] at hj
    subst hj
    rw [add_, cell_of_row _ _ _ #[v] t (0, 0) (heap_alloc_new W _)]
    rfl
  | j + 1 => simp at hj
def namesF (D : Dsk) : List ByteArray := if D.down = true then [] else D.l.map Prod.fst
set_option maxHeartbeats 2000000 in
set_option maxRecDepth 100000 in
theorem names_calls (w : World) (b : Nat) (lv : Value) (D : Dsk) (h : IsDisk w b lv D) (hl : D.l.length ≤ 100000) :
    Calls Try.prog 15 #[.pointer (some ⟨b, 0, none⟩)] w fun e w' => ∃ v, e = .returned v ∧ Rw w' 9 1 v (namesF D).length (scells (namesF D)) ∧ Below w.heap.size w w' ∧ (∀ k, v.ownBlock = some k → w.heap.size ≤ k) := by
  obtain ⟨c0, c1, c2, c3, cf⟩ := h.facts
  have HD := Aside0.mk h
  clear cf c1 c2
  cases hdn : D.down with
  | true =>
    rw [hdn] at c3
    have HC := Aside0.mk (show namesF D = [] by unfold namesF; rw [if_pos hdn])
    clear hdn h
    go_enter Try.func15, Try.ntmps15
    go_wp2
    go_ret
    rw [HC.out]
    exact ⟨_, rfl, Rw.nil _ _ _, Below.refl _ _, fun k hk => by simp [Value.ownBlock] at hk⟩
  | false =>
    rw [hdn] at c3
    have HC := Aside0.mk (show namesF D = D.l.map Prod.fst by unfold namesF; rw [if_neg (by rw [hdn]; simp)])
    obtain ⟨A, c, hlv, hnc, _⟩ := h.row.form
    have HLV := Aside0.mk hlv
    rw [hlv] at c0
    have HB := Aside0.mk (Below.refl w.heap.size w)
    clear hdn h hlv
    go_enter Try.func15, Try.ntmps15
    go_wp2
    go_loopw [3, 19] (fun v3 v19 w' => ∃ k : Nat, v19 = .int .i64 (k : Int) ∧ k ≤ D.l.length ∧ Aside0 (Rw w' 9 1 v3 k (scells ((D.l.take k).map Prod.fst))) ∧ Aside0 (Below w.heap.size w w') ∧ Aside0 (∀ g, v3.ownBlock = some g → w.heap.size ≤ g)) (fun _ v19 _ => D.l.length - (intOf v19).toNat)
    case atStart => exact ⟨0, rfl, Nat.zero_le _, ⟨Rw.nil _ _ _⟩, HB, ⟨fun g hg => by simp [Value.ownBlock] at hg⟩⟩
    case round =>
      clear HB c0 c3
      obtain ⟨k, rfl, hk, HR, HB, HF⟩ := hrel
      by_cases hlt : k < D.l.length
      · have e1 : decide ((k : Int) < (D.l.length : Int)) = true := decide_eq_true (by omega)
        have e2 : (0 : Int) ≤ (k : Int) := by omega
        have e3 : (k : Int) < (D.l.length : Int) := by omega
        have hrow := HD.out.row
        rw [HLV.out] at hrow
        obtain ⟨g, off, cap, hA, _, _⟩ := hrow.form2 (by omega)
        simp only [Value.slice.injEq, true_and] at hA
        obtain ⟨rfl, rfl⟩ := hA
        obtain ⟨y1, y2⟩ := file_cells (Rw.below hrow HB.out) k hlt
        have HX := Aside0.mk (show (D.l.take (k + 1)).map Prod.fst = (D.l.take k).map Prod.fst ++ [D.l[k].1] by rw [List.take_succ_eq_append_getElem hlt, List.map_append]; rfl)
        obtain ⟨nm, hnm⟩ : ∃ nm, D.l[k].1 = nm := ⟨_, rfl⟩
        obtain ⟨dt, hdt⟩ : ∃ dt, D.l[k].2 = dt := ⟨_, rfl⟩
        rw [hnm] at y1
        rw [hdt] at y2
        have HNM := Aside0.mk hnm
        clear hnm hdt hrow
        have hbig : k + 1 ≤ maxLen ∧ (k + 1) * 16 ≤ 140737488355328 := ⟨by simp only [maxLen]; omega, by omega⟩
        have hone : ∀ u ∈ [Value.string nm], u.oneCell' = true := by intro u hu; simp at hu; subst hu; rfl
        go_wp2_with (at_builtin; refine wpList_append_rw _ rfl _ _ _ rfl 9 _ 1 16 uS infoS rfl _ k _ rfl (Rw.alloc (Rw.alloc HR.out _) _) ⟨wr.heap.size + 1, 0, none⟩ 1 1 [.string nm] rfl rfl (news_new (by simp)) hone (Nat.one_pos) hbig ?_; intro g2 off2 cap2 w1 hrow2 hgrow2 hat2)
        go_roundw
        case rel =>
          refine ⟨k + 1, by go_num, by omega, ⟨?_⟩, ⟨?_⟩, ⟨fun q hq => ?_⟩⟩
          · rw [HX.out, HNM.out]
            have := hrow2
            rw [show scells ((D.l.take k).map Prod.fst) ++ [.string nm] = scells ((D.l.take k).map Prod.fst ++ [nm]) by simp [scells]] at this
            exact this
          · exact (((HB.out.alloc HB.out.size _).alloc (by simp; have := HB.out.size; omega) _)).grown hgrow2 (by simp; have := HB.out.size; omega) (fun q hq => HF.out q hq)
          · have : g2 = q := by simpa [Value.ownBlock] using hq
            subst this
            rcases hat2 with h1 | h1
            · exact HF.out _ h1
            · have := HB.out.size
              simp at h1
              omega
        case measure => simp [intOf]; omega
      · have hkl : k = D.l.length := by omega
        subst hkl
        go_wp2
        go_ret
        have hR := HR.out
        rw [List.take_length] at hR
        refine ⟨_, rfl, ?_, HB.out, HF.out⟩
        rw [HC.out, List.length_map]
        exact hR
end Go.Proofs.Ytaibcfghokhghaa.Dk
