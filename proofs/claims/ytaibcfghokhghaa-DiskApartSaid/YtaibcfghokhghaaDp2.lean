/- disk, in plain Lean: the law's few, the document's Set, Get, Write; one act. -/
import Derived.Test.YtaibcfghokhghaaDp1
set_option linter.unusedVariables false
set_option linter.unusedSimpArgs false
namespace Go.Proofs.Ytaibcfghokhghaa.Dp
open Go.RowKit Go.Proofs.YtaibcfghokhghaaW.PrintWords Go.Proofs.YtaibcfghokhghaaW.PrintLast Go.Proofs.YtaibcfghokhghaaW.PrintMore Go.Proofs.Ytaibcfghokhghaa.PA Go.Proofs.Ytaibcfghokhghaa.Base Go.Proofs.Ytaibcfghokhghaa.Lk Go.Proofs.Ytaibcfghokhghaa.Dk

theorem u8_of {a : Int} (h : (Lit.int .u8 a).wf = true) : 0 ≤ a ∧ a ≤ 255 := by
  simp [Lit.wf, IntKind.min, IntKind.max, IntKind.signed, IntKind.bits] at h
  omega
theorem i64_of {a : Int} (h : (Lit.int .i64 a).wf = true) : -9223372036854775808 ≤ a ∧ a ≤ 9223372036854775807 := by
  simp [Lit.wf, IntKind.min, IntKind.max, IntKind.signed, IntKind.bits] at h
  omega
theorem Ev.itp {α : Type} {c : Prop} {inst : Decidable c} {g f : Nat → Option α} {r : α} (h : c) (k : Ev g r) : Ev (fun n => @ite _ c inst (g n) (f n)) r := Base.Ev.ite_pos h k
theorem rd33 (l : List S33) (i : Nat) (h : i < l.length) : rd_T33 l (i : Int) = l[i] := by
  unfold rd_T33
  rw [Int.toNat_natCast, List.getD_eq_getElem?_getD, List.getElem?_eq_getElem h]
  rfl
theorem rd51 (l : List File) (i : Nat) (h : i < l.length) : rd_T51 (rl l) (i : Int) = ⟨l[i].1, l[i].2⟩ := by
  unfold rd_T51
  rw [Int.toNat_natCast, List.getD_eq_getElem?_getD, List.getElem?_eq_getElem (by rw [rl_length]; exact h)]
  simp [rl]
theorem inc (i : Nat) (h : i ≤ 1000000000) : wrap64 ((i : Int) + 1) = ((i + 1 : Nat) : Int) := by rw [w64 (by omega) (by omega)]; omega

/-- What few comes to. -/
theorem few_l0 (l : List S33) (hl : l.length ≤ 9223372036854775807) (d : Nat) : ∀ i : Nat, 61 - i ≤ d → i ≤ 60 → (∀ j, (h : j < l.length) → j < i → l[j].f2.size ≤ 100) →
    ∃ b, Ev (fun k => knapsacklaw21_few.l0 k l (i : Int)) b ∧ (b = true → l.length ≤ 60 ∧ ∀ j, (h : j < l.length) → l[j].f2.size ≤ 100) := by
  induction d with
  | zero => intro i h1 h2 h3; omega
  | succ d ih =>
    intro i h1 h2 h3
    by_cases c : (i : Int) < (l.length : Int)
    · by_cases c8 : i < 60
      · by_cases ct : l[i].f1.size ≤ 20
        · by_cases cs : l[i].f2.size ≤ 100
          · obtain ⟨b, hb, hb2⟩ := ih (i + 1) (by omega) (by omega) (fun j hj hji => by
              by_cases e : j = i
              · subst e; exact cs
              · exact h3 j hj (by omega))
            refine ⟨b, ?_, hb2⟩
            refine Ev.step (fun k => by rw [knapsacklaw21_few.l0]) ?_
            refine Base.Ev.ite_pos c ?_
            refine Ev.step (fun k => by rw [knapsacklaw21_few.j1]) ?_
            refine Base.Ev.ite_pos (by rw [decide_eq_true (by omega)]) ?_
            refine Base.Ev.ite_pos (by omega) ?_
            refine Base.Ev.ite_pos c ?_
            refine Base.Ev.ite_neg (by rw [rd33 l i (by omega)]; omega) ?_
            refine Base.Ev.ite_neg (by rw [rd33 l i (by omega)]; omega) ?_
            rw [inc i (by omega)]
            exact hb
          · refine ⟨false, ?_, fun h => by simp at h⟩
            refine Ev.step (fun k => by rw [knapsacklaw21_few.l0]) ?_
            refine Base.Ev.ite_pos c ?_
            refine Ev.step (fun k => by rw [knapsacklaw21_few.j1]) ?_
            refine Base.Ev.ite_pos (by rw [decide_eq_true (by omega)]) ?_
            refine Base.Ev.ite_pos (by omega) ?_
            refine Base.Ev.ite_pos c ?_
            refine Base.Ev.ite_neg (by rw [rd33 l i (by omega)]; omega) ?_
            refine Base.Ev.ite_pos (by rw [rd33 l i (by omega)]; omega) ?_
            exact Ev.now _
        · refine ⟨false, ?_, fun h => by simp at h⟩
          refine Ev.step (fun k => by rw [knapsacklaw21_few.l0]) ?_
          refine Base.Ev.ite_pos c ?_
          refine Ev.step (fun k => by rw [knapsacklaw21_few.j1]) ?_
          refine Base.Ev.ite_pos (by rw [decide_eq_true (by omega)]) ?_
          refine Base.Ev.ite_pos (by omega) ?_
          refine Base.Ev.ite_pos c ?_
          refine Base.Ev.ite_pos (by rw [rd33 l i (by omega)]; omega) ?_
          exact Ev.now _
      · refine ⟨decide ((l.length : Int) ≤ 60), ?_, fun hb => ?_⟩
        · refine Ev.step (fun k => by rw [knapsacklaw21_few.l0]) ?_
          refine Base.Ev.ite_pos c ?_
          refine Ev.step (fun k => by rw [knapsacklaw21_few.j1]) ?_
          refine Base.Ev.ite_neg (by rw [decide_eq_false (by omega)]; simp) ?_
          exact Ev.now _
        · have := of_decide_eq_true hb
          exact ⟨by omega, fun j hj => h3 j hj (by omega)⟩
    · refine ⟨decide ((l.length : Int) ≤ 60), ?_, fun hb => ?_⟩
      · refine Ev.step (fun k => by rw [knapsacklaw21_few.l0]) ?_
        refine Base.Ev.ite_neg c ?_
        refine Ev.step (fun k => by rw [knapsacklaw21_few.j1]) ?_
        refine Base.Ev.ite_neg (by simp) ?_
        exact Ev.now _
      · have := of_decide_eq_true hb
        exact ⟨by omega, fun j hj => h3 j hj (by omega)⟩
theorem few_ev (l : List S33) (hl : l.length ≤ 9223372036854775807) : ∃ b, Ev (fun k => knapsacklaw21_few.f k l) b ∧ (b = true → l.length ≤ 60 ∧ ∀ j, (h : j < l.length) → l[j].f2.size ≤ 100) :=
  few_l0 l hl 61 0 (by omega) (by omega) (fun j _ h => by omega)

theorem rl_append (a b : List File) : rl (a ++ b) = rl a ++ rl b := by simp [rl]
theorem set_l0 (l : List File) (n d : ByteArray) (hl : l.length ≤ 100000) (j : Nat) : ∀ (i : Nat) (out : List File) (b : Bool), i + j = l.length → out.length ≤ 2 * i → Ev (fun k => knapsackref21_Set.l0 k (rl l) n d (rl out) b (i : Int)) (rl (out ++ putS (l.drop i) n d b)) := by
  induction j with
  | zero =>
    intro i out b h ho
    have hdr : l.drop i = [] := List.drop_eq_nil_of_le (by omega)
    rw [hdr]
    refine Ev.step (fun k => by rw [knapsackref21_Set.l0]) ?_
    refine Base.Ev.ite_neg (by rw [rl_length]; omega) ?_
    cases b with
    | true =>
      refine Base.Ev.ite_pos rfl ?_
      rw [show putS [] n d true = [] from rfl, List.append_nil]
      exact Ev.now _
    | false =>
      refine Base.Ev.ite_neg (by simp) ?_
      refine Base.Ev.ite_pos (by rw [rl_length]; omega) ?_
      rw [show putS [] n d false = [(n, d)] from rfl, rl_append]
      exact Ev.now _
  | succ j ih =>
    intro i out b h ho
    have hi : i < l.length := by omega
    have hr := rd51 l i hi
    have hdr : l.drop i = l[i] :: l.drop (i + 1) := List.drop_eq_getElem_cons hi
    have hii : ((i : Nat) : Int) < ((rl l).length : Int) := by rw [rl_length]; omega
    rw [hdr]
    refine Ev.step (fun k => by rw [knapsackref21_Set.l0]) ?_
    refine Base.Ev.ite_pos hii ?_
    -- behind the test: does it go in here?
    have fwd : ∀ (b2 : Bool), (out.length ≤ 2 * i + 1) → ∀ out2 : List File, out2.length ≤ 2 * i + 1 →
        Ev (fun k => if (rd_T51 (rl l) (i : Int)).f0.toList = n.toList then knapsackref21_Set.l0 k (rl l) n d (rl out2) b2 (wrap64 ((i : Int) + 1)) else (if (rl out2).length < 4398046511104 then knapsackref21_Set.l0 k (rl l) n d (rl out2 ++ [(⟨(rd_T51 (rl l) (i : Int)).f0, (rd_T51 (rl l) (i : Int)).f1⟩ : S51)]) b2 (wrap64 ((i : Int) + 1)) else none)) (rl (out2 ++ ((if l[i].1 = n then [] else [l[i]]) ++ putS (l.drop (i + 1)) n d b2))) := by
      intro b2 _ out2 ho2
      rw [hr]
      by_cases hn : l[i].1 = n
      · refine Base.Ev.ite_pos ((tl_inj _ _).mpr hn) ?_
        rw [inc i (by omega), if_pos hn]
        exact ih (i + 1) out2 b2 (by omega) (by omega)
      · refine Base.Ev.ite_neg (fun e => hn ((tl_inj _ _).mp e)) ?_
        refine Base.Ev.ite_pos (by rw [rl_length]; omega) ?_
        rw [inc i (by omega), if_neg hn]
        have := ih (i + 1) (out2 ++ [l[i]]) b2 (by omega) (by simp; omega)
        rw [rl_append, List.append_assoc] at this
        exact this
    cases b with
    | true =>
      refine Base.Ev.ite_pos rfl ?_
      refine Ev.step (fun k => by rw [knapsackref21_Set.j1]) ?_
      refine Base.Ev.ite_neg (by simp) ?_
      refine Base.Ev.ite_pos (by omega) ?_
      refine Base.Ev.ite_pos hii ?_
      rw [show putS (l[i] :: l.drop (i + 1)) n d true = (if l[i].1 = n then [] else [l[i]]) ++ putS (l.drop (i + 1)) n d true by rw [putS, if_neg (by simp)]]
      exact fwd true (by omega) out (by omega)
    | false =>
      refine Base.Ev.ite_neg (by simp) ?_
      refine Base.Ev.ite_pos (by omega) ?_
      refine Ev.step (fun k => by rw [knapsackref21_Set.j1]) ?_
      rw [hr]
      show Ev (fun k => if (!Op.bytesLess (l[i].1).toList n.toList) = true then _ else _) _
      rw [c_less]
      by_cases hx : cmpN l[i].1 n < 0
      · refine Base.Ev.ite_neg (by rw [decide_eq_true hx]; simp) ?_
        refine Base.Ev.ite_pos (by omega) ?_
        refine Base.Ev.ite_pos hii ?_
        rw [show putS (l[i] :: l.drop (i + 1)) n d false = (if l[i].1 = n then [] else [l[i]]) ++ putS (l.drop (i + 1)) n d false by rw [putS, if_neg (by simp [hx])]]
        have := fwd false (by omega) out (by omega)
        rw [hr] at this
        exact this
      · refine Base.Ev.ite_pos (by rw [decide_eq_false hx]; rfl) ?_
        refine Base.Ev.ite_pos (by rw [rl_length]; omega) ?_
        refine Base.Ev.pure_bind ?_
        refine Base.Ev.ite_pos (by omega) ?_
        refine Base.Ev.ite_pos hii ?_
        rw [show putS (l[i] :: l.drop (i + 1)) n d false = (n, d) :: ((if l[i].1 = n then [] else [l[i]]) ++ putS (l.drop (i + 1)) n d true) by rw [putS, if_pos ⟨rfl, hx⟩]; rfl]
        have := fwd true (by omega) (out ++ [(n, d)]) (by simp; omega)
        rw [hr] at this
        rw [List.append_assoc] at this
        rw [rl_append out [(n, d)]] at this
        exact this
theorem set_ev (l : List File) (n d : ByteArray) (b : Bool) (hl : l.length ≤ 100000) : Ev (fun k => knapsackref21_Set.f k (rl l) n d b) (rl (putS l n d b)) :=
  set_l0 l n d hl l.length 0 [] b (by omega) (by simp)
theorem get_l0 (l : List File) (n : ByteArray) (hl : l.length ≤ 100000) (j : Nat) : ∀ i : Nat, i + j = l.length → Ev (fun k => knapsackref21_Get.l0 k (rl l) n (i : Int)) (getS (l.drop i) n) := by
  induction j with
  | zero =>
    intro i h
    rw [List.drop_eq_nil_of_le (by omega)]
    refine Ev.step (fun k => by rw [knapsackref21_Get.l0]) ?_
    refine Base.Ev.ite_neg (by rw [rl_length]; omega) ?_
    exact Ev.now _
  | succ j ih =>
    intro i h
    have hi : i < l.length := by omega
    have hr := rd51 l i hi
    rw [List.drop_eq_getElem_cons hi]
    refine Ev.step (fun k => by rw [knapsackref21_Get.l0]) ?_
    refine Base.Ev.ite_pos (by rw [rl_length]; omega) ?_
    refine Base.Ev.ite_pos (by omega) ?_
    rw [hr]
    unfold getS
    by_cases hn : l[i].1 = n
    · rw [if_pos hn]
      refine Base.Ev.ite_pos ((tl_inj _ _).mpr hn) ?_
      exact Ev.now _
    · rw [if_neg hn]
      refine Base.Ev.ite_neg (fun e => hn ((tl_inj _ _).mp e)) ?_
      rw [inc i (by omega)]
      exact ih (i + 1) (by omega)
theorem get_ev (l : List File) (n : ByteArray) (hl : l.length ≤ 100000) : Ev (fun k => knapsackref21_Get.f k (rl l) n) (getS l n) := get_l0 l n hl l.length 0 (by omega)

/-- What holds of a disk that few acts came to. -/
structure Inv (D : Dsk) (i : Nat) : Prop where
  rise : Rise D.l
  len : D.l.length ≤ i
  f1 : D.fuse ≤ 9223372036854775807
  f2 : -1 ≤ D.fuse
theorem put1 (l : List File) (fu pt : Int) (n d : ByteArray) (p : Nat) : putF ⟨l, fu, pt, true⟩ n d p = (11, ⟨l, fu, pt, true⟩) := rfl
theorem put2 (l : List File) {fu : Int} (pt : Int) (n d : ByteArray) (p : Nat) (h : ¬ fu = 0) : putF ⟨l, fu, pt, false⟩ n d p = (0, ⟨setL l n d p, if 0 < fu then fu - 1 else fu, pt, false⟩) := by simp [putF, cutF, h]
theorem put3 (l : List File) {pt : Int} (n d : ByteArray) (p : Nat) (h : 0 < pt) : putF ⟨l, 0, pt, false⟩ n d p = (11, ⟨setL l n (d.extract 0 (min pt.toNat d.size)) p, 0, pt, true⟩) := by simp [putF, cutF, h]
theorem put4 (l : List File) {pt : Int} (n d : ByteArray) (p : Nat) (h : ¬ 0 < pt) : putF ⟨l, 0, pt, false⟩ n d p = (11, ⟨l, 0, pt, true⟩) := by simp [putF, cutF, h]
theorem drop1 (l : List File) (fu pt : Int) (n : ByteArray) (p : Nat) : dropF ⟨l, fu, pt, true⟩ n p = (11, ⟨l, fu, pt, true⟩) := rfl
theorem drop2 (l : List File) {fu : Int} (pt : Int) (n : ByteArray) (p : Nat) (h : ¬ fu = 0) : dropF ⟨l, fu, pt, false⟩ n p = (0, ⟨goneL l n p, if 0 < fu then fu - 1 else fu, pt, false⟩) := by simp [dropF, cutF, h]
theorem drop3 (l : List File) {pt : Int} (n : ByteArray) (p : Nat) (h : 0 < pt) : dropF ⟨l, 0, pt, false⟩ n p = (11, ⟨goneL l n p, 0, pt, true⟩) := by simp [dropF, cutF, h]
theorem drop4 (l : List File) {pt : Int} (n : ByteArray) (p : Nat) (h : ¬ 0 < pt) : dropF ⟨l, 0, pt, false⟩ n p = (11, ⟨l, 0, pt, true⟩) := by simp [dropF, cutF, h]
theorem write1 (l : List File) (fu pt : Int) (n d : ByteArray) (g : Bool) (hl : l.length ≤ 1000000) : Ev (fun k => writeF k ⟨l, fu, pt, true⟩ n d g) (11, ⟨l, fu, pt, true⟩) := by
  unfold writeF
  refine Base.Ev.ite_pos hl ?_
  refine Base.Ev.ite_pos rfl ?_
  exact Ev.now _
theorem write2 (l : List File) {fu : Int} (pt : Int) (n d : ByteArray) (g : Bool) (hl : l.length ≤ 1000000) (h : ¬ fu = 0) {r : List File} (e : Ev (fun k => knapsackref21_Set.f k (rl l) n d g) (rl r)) : Ev (fun k => writeF k ⟨l, fu, pt, false⟩ n d g) (0, ⟨r, if 0 < fu then fu - 1 else fu, pt, false⟩) := by
  unfold writeF
  refine Base.Ev.ite_pos hl ?_
  refine Base.Ev.ite_neg (by simp) ?_
  refine Base.Ev.ite_neg h ?_
  refine Ev.bind e ?_
  rw [fl_rl]
  exact Ev.now _
theorem write3 (l : List File) {pt : Int} (n d : ByteArray) (g : Bool) (hl : l.length ≤ 1000000) (h : 0 < pt) {r : List File} (e : Ev (fun k => knapsackref21_Set.f k (rl l) n (if pt < (d.size : Int) then d.extract 0 pt.toNat else d) g) (rl r)) : Ev (fun k => writeF k ⟨l, 0, pt, false⟩ n d g) (11, ⟨r, 0, pt, true⟩) := by
  unfold writeF
  refine Base.Ev.ite_pos hl ?_
  refine Base.Ev.ite_neg (by simp) ?_
  refine Base.Ev.ite_pos rfl ?_
  refine Base.Ev.ite_pos h ?_
  refine Ev.bind e ?_
  rw [fl_rl]
  exact Ev.now _
theorem write4 (l : List File) {pt : Int} (n d : ByteArray) (g : Bool) (hl : l.length ≤ 1000000) (h : ¬ 0 < pt) : Ev (fun k => writeF k ⟨l, 0, pt, false⟩ n d g) (11, ⟨l, 0, pt, true⟩) := by
  unfold writeF
  refine Base.Ev.ite_pos hl ?_
  refine Base.Ev.ite_neg (by simp) ?_
  refine Base.Ev.ite_pos rfl ?_
  refine Base.Ev.ite_neg h ?_
  exact Ev.now _
theorem cut_data (d : ByteArray) {pt : Int} (h : 0 < pt) : (if pt < (d.size : Int) then d.extract 0 pt.toNat else d) = d.extract 0 (min pt.toNat d.size) := by
  by_cases c : pt < (d.size : Int)
  · rw [if_pos c, Nat.min_eq_left (by omega)]
  · rw [if_neg c, Nat.min_eq_right (by omega), ByteArray.extract_zero_size]
theorem write_put {D : Dsk} {i : Nat} (h : Inv D i) (hi : i ≤ 1000) (n d : ByteArray) :
    Ev (fun k => writeF k D n d false) ((putF D n d (lbN D.l n)).1, (putF D n d (lbN D.l n)).2) ∧ Inv (putF D n d (lbN D.l n)).2 (i + 1) := by
  obtain ⟨l, fu, pt, dn⟩ := D
  obtain ⟨h1, h2, h3, h4⟩ := h
  simp only at h1 h2 h3 h4
  have hs : ∀ d2, setL l n d2 (lbN l n) = putS l n d2 false := fun d2 => (putS_set l n d2 h1).symm
  have hr : ∀ d2, Rise (setL l n d2 (lbN l n)) ∧ (setL l n d2 (lbN l n)).length ≤ i + 1 := fun d2 => by
    rw [hs]; exact ⟨putS_rise l n d2 false h1, by have := (putS_length l n d2 false).1; omega⟩
  have he : ∀ d2, Ev (fun k => knapsackref21_Set.f k (rl l) n d2 false) (rl (setL l n d2 (lbN l n))) := fun d2 => by rw [hs]; exact set_ev l n d2 false (by omega)
  show Ev _ ((putF _ n d (lbN l n)).1, (putF _ n d (lbN l n)).2) ∧ Inv (putF _ n d (lbN l n)).2 (i + 1)
  cases dn with
  | true =>
    rw [put1]
    exact ⟨write1 l fu pt n d false (by omega), h1, by show l.length ≤ i + 1; omega, h3, h4⟩
  | false =>
    by_cases c0 : fu = 0
    · subst c0
      by_cases cp : 0 < pt
      · rw [put3 l n d _ cp]
        have e := he (d.extract 0 (min pt.toNat d.size))
        rw [← cut_data d cp] at e
        have e2 := write3 l n d false (by omega) cp e
        rw [cut_data d cp] at e2
        exact ⟨e2, (hr _).1, (hr _).2, by show (0 : Int) ≤ 9223372036854775807; omega, by show (-1 : Int) ≤ 0; omega⟩
      · rw [put4 l n d _ cp]
        exact ⟨write4 l n d false (by omega) cp, h1, by show l.length ≤ i + 1; omega, by show (0 : Int) ≤ 9223372036854775807; omega, by show (-1 : Int) ≤ 0; omega⟩
    · rw [put2 l pt n d _ c0]
      exact ⟨write2 l pt n d false (by omega) c0 (he d), (hr _).1, (hr _).2, by show (if 0 < fu then fu - 1 else fu) ≤ 9223372036854775807; split <;> omega, by show -1 ≤ (if 0 < fu then fu - 1 else fu); split <;> omega⟩
theorem write_drop {D : Dsk} {i : Nat} (h : Inv D i) (hi : i ≤ 1000) (n : ByteArray) :
    Ev (fun k => writeF k D n ⟨#[]⟩ true) ((dropF D n (lbN D.l n)).1, (dropF D n (lbN D.l n)).2) ∧ Inv (dropF D n (lbN D.l n)).2 (i + 1) := by
  obtain ⟨l, fu, pt, dn⟩ := D
  obtain ⟨h1, h2, h3, h4⟩ := h
  simp only at h1 h2 h3 h4
  have hs : ∀ d2, goneL l n (lbN l n) = putS l n d2 true := fun d2 => (putS_gone l n d2 h1).symm
  have hr : Rise (goneL l n (lbN l n)) ∧ (goneL l n (lbN l n)).length ≤ i + 1 := by
    rw [hs ⟨#[]⟩]; exact ⟨putS_rise l n _ true h1, by have := (putS_length l n ⟨#[]⟩ true).1; omega⟩
  have he : ∀ d2, Ev (fun k => knapsackref21_Set.f k (rl l) n d2 true) (rl (goneL l n (lbN l n))) := fun d2 => by rw [hs d2]; exact set_ev l n d2 true (by omega)
  show Ev _ ((dropF _ n (lbN l n)).1, (dropF _ n (lbN l n)).2) ∧ Inv (dropF _ n (lbN l n)).2 (i + 1)
  cases dn with
  | true =>
    rw [drop1]
    exact ⟨write1 l fu pt n _ true (by omega), h1, by show l.length ≤ i + 1; omega, h3, h4⟩
  | false =>
    by_cases c0 : fu = 0
    · subst c0
      by_cases cp : 0 < pt
      · rw [drop3 l n _ cp]
        exact ⟨write3 l n _ true (by omega) cp (he _), hr.1, hr.2, by show (0 : Int) ≤ 9223372036854775807; omega, by show (-1 : Int) ≤ 0; omega⟩
      · rw [drop4 l n _ cp]
        exact ⟨write4 l n _ true (by omega) cp, h1, by show l.length ≤ i + 1; omega, by show (0 : Int) ≤ 9223372036854775807; omega, by show (-1 : Int) ≤ 0; omega⟩
    · rw [drop2 l pt n _ c0]
      exact ⟨write2 l pt n _ true (by omega) c0 (he _), hr.1, hr.2, by show (if 0 < fu then fu - 1 else fu) ≤ 9223372036854775807; split <;> omega, by show -1 ≤ (if 0 < fu then fu - 1 else fu); split <;> omega⟩
theorem act_ev {D : Dsk} {i : Nat} (h : Inv D i) (hi : i ≤ 1000) (a : S33) (h0 : 0 ≤ a.f0 ∧ a.f0 ≤ 255) (hd : a.f2.size ≤ 100) (h3 : -9223372036854775808 ≤ a.f3 ∧ a.f3 ≤ 9223372036854775807) :
    ∃ D', Ev (fun k => actF k D D a) (D', D') ∧ Inv D' (i + 1) := by
  have hok : ActOk D D a := ⟨⟨by have := h.len; omega, lower_of _ _ h.rise, h.f1, by have := h.f2; omega⟩, h.f1, by have := h.f2; omega, by omega, by have := h.len; omega⟩
  have hm : Int.tmod a.f0 6 = a.f0 % 6 := Int.tmod_eq_emod_of_nonneg h0.1
  unfold actF
  rw [hm]
  by_cases c0 : a.f0 % 6 = 0 ∨ a.f0 % 6 = 1
  · obtain ⟨e, hI⟩ := write_put h hi a.f1 a.f2
    refine ⟨_, ?_, hI⟩
    refine Ev.itp hok ?_
    refine Base.Ev.ite_pos c0 ?_
    refine Ev.bind e ?_
    exact Base.Ev.ite_pos rfl (Ev.now _)
  · by_cases c2 : a.f0 % 6 = 2
    · obtain ⟨e, hI⟩ := write_drop h hi a.f1
      refine ⟨_, ?_, hI⟩
      refine Ev.itp hok ?_
      refine Base.Ev.ite_neg c0 ?_
      refine Base.Ev.ite_pos c2 ?_
      refine Ev.bind e ?_
      exact Base.Ev.ite_pos rfl (Ev.now _)
    · by_cases c3 : a.f0 % 6 = 3
      · refine ⟨{ D with fuse := max a.f3 (-1), part := a.f4 }, ?_, ⟨h.rise, by have := h.len; simp only; omega, by simp only; omega, by simp only; omega⟩⟩
        refine Ev.itp hok ?_
        refine Base.Ev.ite_neg c0 ?_
        refine Base.Ev.ite_neg c2 ?_
        refine Base.Ev.ite_pos c3 ?_
        rw [show (if a.f3 < 0 then -1 else a.f3) = max a.f3 (-1) by split <;> omega]
        exact Ev.now _
      · by_cases c4 : a.f0 % 6 = 4
        · refine ⟨{ D with fuse := -1, down := false }, ?_, ⟨h.rise, by have := h.len; simp only; omega, by simp only; omega, by simp only; omega⟩⟩
          refine Ev.itp hok ?_
          refine Base.Ev.ite_neg c0 ?_
          refine Base.Ev.ite_neg c2 ?_
          refine Base.Ev.ite_neg c3 ?_
          refine Base.Ev.ite_pos c4 ?_
          exact Ev.now _
        · refine ⟨D, ?_, ⟨h.rise, by have := h.len; omega, h.f1, h.f2⟩⟩
          refine Ev.itp hok ?_
          refine Base.Ev.ite_neg c0 ?_
          refine Base.Ev.ite_neg c2 ?_
          refine Base.Ev.ite_neg c3 ?_
          refine Base.Ev.ite_neg c4 ?_
          refine Base.Ev.ite_pos (by omega) ?_
          refine Ev.bind (get_ev D.l a.f1 (by have := h.len; omega)) ?_
          refine Base.Ev.ite_pos ?_ (Ev.now _)
          by_cases hdn : D.down = true
          · rw [if_pos hdn]
            unfold getF
            rw [if_pos hdn]
          · rw [if_neg hdn, getS_at _ _ h.rise]
            unfold getF
            rw [if_neg hdn]
theorem same_ok {D : Dsk} {i : Nat} (h : Inv D i) (hi : i ≤ 1000) : SameOk D D := ⟨rfl, rfl, by have := h.len; omega, low_own _ h.rise⟩
theorem inv0 : Inv D0 0 := ⟨List.Pairwise.nil, Nat.le_refl _, by decide, by decide⟩
end Go.Proofs.Ytaibcfghokhghaa.Dp
