/- What delta's Make comes to: steps that Apply turns back. -/
import Derived.Test.YtnmnplbjhejejaaDe
import Derived.Test.YtnmnplbjhejejaaPAx12
import Derived.Lib.EndianBits
set_option linter.unusedVariables false
set_option linter.unusedSimpArgs false
namespace Go.Proofs.Ytnmnplbjhejejaa.Dm
open Go.RowKit Go.Proofs.YtnmnplbjhejejaaW.PrintWords Go.Proofs.YtnmnplbjhejejaaW.PrintLast Go.Proofs.YtnmnplbjhejejaaW.PrintMore Go.Proofs.Ytnmnplbjhejejaa.PA Go.Proofs.Ytnmnplbjhejejaa.Base Go.Proofs.Ytnmnplbjhejejaa.Vi Go.Proofs.Ytnmnplbjhejejaa.De

/-! ### the first bytes that are the same -/
def cp : List UInt8 → List UInt8 → Nat
  | x :: a, y :: b => if x = y then cp a b + 1 else 0
  | _, _ => 0
theorem cp_take : ∀ a b, cp a b ≤ a.length ∧ cp a b ≤ b.length ∧ a.take (cp a b) = b.take (cp a b)
  | [], b => by simp [cp]
  | x :: a, [] => by simp [cp]
  | x :: a, y :: b => by
    obtain ⟨h1, h2, h3⟩ := cp_take a b
    unfold cp
    by_cases h : x = y
    · rw [if_pos h]; subst h; simp [h3]; omega
    · rw [if_neg h]; simp
theorem cp_self : ∀ a, cp a a = a.length
  | [] => rfl
  | x :: a => by unfold cp; rw [if_pos rfl, cp_self a]; rfl
theorem alike_l0 (a b : List UInt8) (ha : a.length ≤ 1000000) (d : Nat) : ∀ i : Nat, a.length - i ≤ d → i ≤ a.length → i ≤ b.length → Ev (fun k => delta_alike.l0 k (mkB a) (mkB b) (i : Int)) ((i + cp (a.drop i) (b.drop i) : Nat) : Int) := by
  induction d with
  | zero =>
    intro i h1 h2 h3
    refine Ev.step (fun k => by rw [delta_alike.l0]) ?_
    refine Base.Ev.ite_neg (by rw [mkB_size]; omega) ?_
    rw [List.drop_of_length_le (by omega : a.length ≤ i)]
    exact Ev.now _
  | succ d ih =>
    intro i h1 h2 h3
    refine Ev.step (fun k => by rw [delta_alike.l0]) ?_
    by_cases hi : i < a.length
    · refine Base.Ev.ite_pos (by rw [mkB_size]; omega) ?_
      rw [List.drop_eq_getElem_cons hi]
      by_cases hj : i < b.length
      · refine Base.Ev.ite_pos (by rw [mkB_size]; omega) ?_
        refine Base.Ev.ite_pos (by omega) ?_
        rw [List.drop_eq_getElem_cons hj]
        unfold cp
        by_cases he : a[i] = b[i]
        · refine Base.Ev.ite_pos (by rw [mkB_bt a i hi, mkB_bt b i hj, he]) ?_
          rw [if_pos he, w64 (by omega) (by omega)]
          have := ih (i + 1) (by omega) (by omega) (by omega)
          refine Base.Ev.eq ?_ this
          congr 1; omega
        · refine Base.Ev.ite_neg (by rw [mkB_bt a i hi, mkB_bt b i hj]; intro h; apply he; apply UInt8.toNat_inj.1; omega) ?_
          rw [if_neg he]; exact Ev.now _
      · refine Base.Ev.ite_neg (by rw [mkB_size]; omega) ?_
        rw [List.drop_of_length_le (by omega : b.length ≤ i)]
        exact Ev.now _
    · refine Base.Ev.ite_neg (by rw [mkB_size]; omega) ?_
      rw [List.drop_of_length_le (by omega : a.length ≤ i)]
      exact Ev.now _
theorem alike_ev (a b : List UInt8) (ha : a.length ≤ 1000000) : Ev (fun k => delta_alike.f k (mkB a) (mkB b)) ((cp a b : Nat) : Int) := by
  unfold delta_alike.f
  have := alike_l0 a b ha a.length 0 (by omega) (by omega) (by omega)
  simpa using this

/-! ### the key -/
def keyv : List UInt8 → Nat
  | a :: b :: c :: d :: _ => a.toNat + 256 * b.toNat + 65536 * c.toNat + 16777216 * d.toNat
  | _ => 0
theorem key_eq (l : List UInt8) (h : 4 ≤ l.length) : delta_key.f (mkB l) = some (keyv l : Int) ∧ keyv l < 4294967296 := by
  match l, h with
  | a :: b :: c :: d :: l, _ =>
    have ha := a.toNat_lt; have hb := b.toNat_lt; have hc := c.toNat_lt; have hd := d.toNat_lt
    unfold delta_key.f
    have e0 : bt (mkB (a :: b :: c :: d :: l)) 0 = (a.toNat : Int) := mkB_bt _ 0 (by simp)
    have e1 : bt (mkB (a :: b :: c :: d :: l)) 1 = (b.toNat : Int) := mkB_bt _ 1 (by simp)
    have e2 : bt (mkB (a :: b :: c :: d :: l)) 2 = (c.toNat : Int) := mkB_bt _ 2 (by simp)
    have e3 : bt (mkB (a :: b :: c :: d :: l)) 3 = (d.toNat : Int) := mkB_bt _ 3 (by simp)
    have hs : ((mkB (a :: b :: c :: d :: l)).size : Int) = (l.length : Int) + 4 := by rw [mkB_size]; simp; omega
    constructor
    · rw [if_pos (by omega), if_pos (by omega), if_pos (by omega), if_pos (by omega), e0, e1, e2, e3]
      have k1 := Go.u32_or8 ((a.toNat : Int) % 4294967296) ((b.toNat : Int) % 4294967296 * 256 % 4294967296) (by omega) (by omega) (by omega) (by omega) (by omega)
      have k2 := Go.u32_or16 ((a.toNat : Int) % 4294967296 + (b.toNat : Int) % 4294967296 * 256 % 4294967296) ((c.toNat : Int) % 4294967296 * 65536 % 4294967296) (by omega) (by omega) (by omega) (by omega) (by omega)
      have k3 := Go.u32_or24 ((a.toNat : Int) % 4294967296 + (b.toNat : Int) % 4294967296 * 256 % 4294967296 + (c.toNat : Int) % 4294967296 * 65536 % 4294967296) ((d.toNat : Int) % 4294967296 * 16777216 % 4294967296) (by omega) (by omega) (by omega) (by omega) (by omega)
      rw [k1, k2, k3]
      simp only [keyv, Option.some.injEq]
      omega
    · simp only [keyv]; omega
theorem keyv_first {a b : List UInt8} (ha : 4 ≤ a.length) (hb : 4 ≤ b.length) (h : keyv a = keyv b) : 1 ≤ cp a b := by
  match a, b, ha, hb with
  | a :: a1 :: a2 :: a3 :: l, b :: b1 :: b2 :: b3 :: m, _, _ =>
    simp only [keyv] at h
    have ha := a.toNat_lt; have hb := b.toNat_lt
    have : a = b := by apply UInt8.toNat_inj.1; omega
    unfold cp
    rw [if_pos this]; omega

/-! ### steps that come to a text -/
inductive Cod (base : List UInt8) : List UInt8 → List UInt8 → Prop
  | nil : Cod base [] []
  | step {s t s2 t2 : List UInt8} : s ≠ [] → t ≠ [] → (∀ r, stp base (s ++ r) = some (t, r)) → Cod base s2 t2 → Cod base (s ++ s2) (t ++ t2)
theorem Cod.append {base s t s2 t2 : List UInt8} (h : Cod base s t) (h2 : Cod base s2 t2) : Cod base (s ++ s2) (t ++ t2) := by
  induction h with
  | nil => exact h2
  | step a b c d ih => rw [List.append_assoc, List.append_assoc]; exact Cod.step a b c ih
theorem Cod.one {base s t : List UInt8} (a : s ≠ []) (b : t ≠ []) (c : ∀ r, stp base (s ++ r) = some (t, r)) : Cod base s t := by
  have := Cod.step a b c Cod.nil
  simpa using this
theorem Cod.run {base s t : List UInt8} (h : Cod base s t) : ∀ (out : List UInt8) (size d : Nat), size = out.length + t.length → s.length ≤ d → run base size d out s = some (out ++ t) := by
  induction h with
  | nil => intro out size d h1 h2; cases d <;> simp [De.run, h1]
  | @step s t s2 t2 a b c _ ih =>
    intro out size d h1 h2
    cases s with
    | nil => exact absurd rfl a
    | cons x s =>
      cases d with
      | zero => simp at h2
      | succ d =>
        have hc := c s2
        rw [List.cons_append] at hc ⊢
        simp only [De.run, hc]
        simp only [List.length_append] at h1
        rw [if_pos (by omega), ih (out ++ t) size d (by simp; omega) (by simp at h2; omega), List.append_assoc]
def pl (p : List UInt8) : List UInt8 := if p = [] then [] else enc (2 * p.length) ++ p
theorem pl_length (p : List UInt8) (h : p.length ≤ 1000000) : (pl p).length ≤ 10 + p.length := by
  unfold pl
  split
  · simp
  · have := enc_length10 (2 * p.length) (by omega); simp; omega
theorem pl_cod (base p : List UInt8) (h : p.length ≤ 1000000) : Cod base (pl p) p := by
  unfold pl
  split
  · rename_i h; subst h; exact Cod.nil
  · rename_i hp
    have hl : 0 < p.length := List.length_pos_iff.2 hp
    refine Cod.one (by simp [hp]) hp fun r => ?_
    unfold stp
    rw [List.append_assoc, dec_enc0 _ _ (by omega)]
    simp only
    rw [show 2 * p.length / 2 = p.length by omega, if_neg (by omega), if_pos (by omega), if_pos (by simp)]
    simp
theorem plain_ev (p : List UInt8) (h : p.length ≤ 1000000) : Ev (fun k => delta_plain.f k (mkB p)) (mkB (pl p)) := by
  unfold delta_plain.f pl
  rw [mkB_toList]
  by_cases hp : p = []
  · refine Base.Ev.ite_pos hp ?_
    rw [if_pos hp]; exact Ev.now _
  · refine Base.Ev.ite_neg hp ?_
    rw [if_neg hp]
    have := put_ev (2 * p.length) (by omega)
    refine Ev.bind (a := mkB (enc (2 * p.length))) ?_ ?_
    · rw [mkB_size, w64 (by omega) (by omega), wu64 (by omega) (by omega), show (2 : Int) * (p.length : Int) = ((2 * p.length : Nat) : Int) by omega]
      exact this
    · have := enc_length10 (2 * p.length) (by omega)
      refine Base.Ev.ite_pos (by rw [mkB_size, mkB_size]; omega) ?_
      rw [mkB_append]; exact Ev.now _
def cpy (n at_ : Nat) : List UInt8 := enc (2 * n + 1) ++ enc at_
theorem cpy_cod (base : List UInt8) (n at_ : Nat) (hb : base.length ≤ 1000000) (h1 : 1 ≤ n) (h2 : n + at_ ≤ base.length) : Cod base (cpy n at_) ((base.drop at_).take n) := by
  unfold cpy
  refine Cod.one (by simp [enc_ne]) (by intro h; have := congrArg List.length h; simp at this; omega) fun r => ?_
  unfold stp
  rw [List.append_assoc, dec_enc0 _ _ (by omega)]
  simp only
  rw [show (2 * n + 1) / 2 = n by omega, if_neg (by omega), if_neg (by omega), dec_enc0 _ _ (by omega)]
  simp only
  rw [if_pos (by omega)]

/-! ### the map -/
/-- Each key of the map stands at its place in the base. -/
def okM (base : List UInt8) (M : List (Int × Int)) : Prop := ∀ k v, dl_look M k = some v → ∃ j : Nat, v = (j : Int) ∧ j + 4 ≤ base.length ∧ k = (keyv (base.drop j) : Int)
theorem look_cons (M : List (Int × Int)) (k v q : Int) : dl_look ((k, v) :: M) q = if k = q then some v else dl_look M q := rfl

theorem l1_ev (base text : List UInt8) (hb : base.length ≤ 2000) (ht : text.length ≤ 2000) (M : List (Int × Int)) (hM : okM base M) (d : Nat) : ∀ (i fr : Nat) (out : List UInt8), text.length - i ≤ d → fr ≤ i → i ≤ text.length → out.length ≤ 31 * fr → Cod base out (text.take fr) →
    ∃ S, Ev (fun k => delta_steps.l1 k (mkB base) (mkB text) M (mkB out) (fr : Int) (i : Int)) (mkB S) ∧ Cod base S text ∧ S.length ≤ 31 * 2010 := by
  have fin : ∀ (i fr : Nat) (out : List UInt8), ¬ i + 4 ≤ text.length → fr ≤ i → i ≤ text.length → out.length ≤ 31 * fr → Cod base out (text.take fr) →
      ∃ S, Ev (fun k => delta_steps.l1 k (mkB base) (mkB text) M (mkB out) (fr : Int) (i : Int)) (mkB S) ∧ Cod base S text ∧ S.length ≤ 31 * 2010 := by
    intro i fr out h1 h2 h3 h4 h5
    have hl : (text.drop fr).length ≤ 1000000 := by simp; omega
    have hp := pl_length (text.drop fr) hl
    have hd : (text.drop fr).length = text.length - fr := by simp
    refine ⟨out ++ pl (text.drop fr), ?_, ?_, ?_⟩
    · refine Ev.step (fun k => by rw [delta_steps.l1]) ?_
      refine Base.Ev.ite_neg (by rw [mkB_size, w64 (by omega) (by omega)]; omega) ?_
      refine Base.Ev.ite_pos (by omega) ?_
      refine Base.Ev.ite_pos (by rw [mkB_size]; omega) ?_
      rw [Int.toNat_natCast, mkB_drop]
      refine Ev.bind (plain_ev _ hl) ?_
      refine Base.Ev.ite_pos (by rw [mkB_size, mkB_size]; omega) ?_
      rw [mkB_append]; exact Ev.now _
    · have := h5.append (pl_cod base (text.drop fr) hl)
      rwa [List.take_append_drop] at this
    · simp only [List.length_append]; omega
  induction d with
  | zero =>
    intro i fr out h0 h1 h2 h3 h4
    exact fin i fr out (by omega) h1 h2 h3 h4
  | succ d ih =>
    intro i fr out h0 h1 h2 h3 h4
    by_cases h5 : i + 4 ≤ text.length
    rotate_left
    · exact fin i fr out h5 h1 h2 h3 h4
    have hkl : 4 ≤ (text.drop i).length := by simp; omega
    obtain ⟨hk1, hk2⟩ := key_eq (text.drop i) hkl
    have hkey : Ev (fun _ : Nat => delta_key.f ((mkB text).extract ((i : Int)).toNat (mkB text).size)) (keyv (text.drop i) : Int) := by
      rw [Int.toNat_natCast, mkB_drop, hk1]; exact Ev.now _
    cases hl : dl_look M (keyv (text.drop i) : Int) with
    | none =>
      obtain ⟨S, s1, s2, s3⟩ := ih (i + 1) fr out (by omega) (by omega) (by omega) h3 h4
      refine ⟨S, ?_, s2, s3⟩
      refine Ev.step (fun k => by rw [delta_steps.l1]) ?_
      refine Base.Ev.ite_pos (by rw [mkB_size, w64 (by omega) (by omega)]; omega) ?_
      refine Base.Ev.ite_pos (by omega) ?_
      refine Base.Ev.ite_pos (by rw [mkB_size]; omega) ?_
      refine Ev.bind hkey ?_
      refine Base.Ev.ite_pos (by omega) ?_
      refine Base.Ev.ite_pos (by omega) ?_
      refine Base.Ev.ite_neg (by rw [hl]; simp) ?_
      rw [w64 (by omega) (by omega)]
      exact s1
    | some v =>
      obtain ⟨j, rfl, hj1, hj2⟩ := hM _ _ hl
      have hjl : 4 ≤ (base.drop j).length := by simp; omega
      have hn1 := keyv_first hjl hkl (by omega : keyv (base.drop j) = keyv (text.drop i))
      obtain ⟨hc1, hc2, hc3⟩ := cp_take (base.drop j) (text.drop i)
      generalize hn : cp (base.drop j) (text.drop i) = n at hn1 hc1 hc2 hc3
      have hbd : (base.drop j).length = base.length - j := by simp
      have htd : (text.drop i).length = text.length - i := by simp
      have hpl : ((text.drop fr).take (i - fr)).length = i - fr := by simp; omega
      have hp := pl_length ((text.drop fr).take (i - fr)) (by omega)
      have e1 := enc_length10 (2 * n + 1) (by omega)
      have e2 := enc_length10 j (by omega)
      have hcod : Cod base (out ++ (pl ((text.drop fr).take (i - fr)) ++ enc (2 * n + 1) ++ enc j)) (text.take (i + n)) := by
        have := (h4.append (pl_cod base ((text.drop fr).take (i - fr)) (by omega))).append (cpy_cod base n j (by omega) hn1 (by omega))
        rw [hc3] at this
        unfold cpy at this
        have e : text.take fr ++ (text.drop fr).take (i - fr) ++ (text.drop i).take n = text.take (i + n) := by
          rw [← List.take_add, show fr + (i - fr) = i by omega, ← List.take_add]
        rw [e] at this
        simpa [List.append_assoc] using this
      obtain ⟨S, s1, s2, s3⟩ := ih (i + n) (i + n) _ (by omega) (Nat.le_refl _) (by omega) (by simp only [List.length_append]; omega) hcod
      refine ⟨S, ?_, s2, s3⟩
      refine Ev.step (fun k => by rw [delta_steps.l1]) ?_
      refine Base.Ev.ite_pos (by rw [mkB_size, w64 (by omega) (by omega)]; omega) ?_
      refine Base.Ev.ite_pos (by omega) ?_
      refine Base.Ev.ite_pos (by rw [mkB_size]; omega) ?_
      refine Ev.bind hkey ?_
      refine Base.Ev.ite_pos (by omega) ?_
      refine Base.Ev.ite_pos (by omega) ?_
      refine Base.Ev.ite_pos (by rw [hl]; rfl) ?_
      simp only [hl, Option.getD_some]
      refine Base.Ev.ite_pos (by omega) ?_
      refine Base.Ev.ite_pos (by rw [mkB_size]; omega) ?_
      rw [Int.toNat_natCast, Int.toNat_natCast, Int.toNat_natCast, mkB_drop, mkB_drop, mkB_extract]
      have ha := alike_ev (base.drop j) (text.drop i) (by omega)
      rw [hn] at ha
      refine Ev.bind ha ?_
      refine Base.Ev.ite_pos (by omega) ?_
      refine Base.Ev.ite_pos (by omega) ?_
      refine Ev.bind (plain_ev _ (by omega)) ?_
      have q1 := put_ev (2 * n + 1) (by omega)
      have q2 := put_ev j (by omega)
      rw [w64 (x := 2 * (n : Int)) (by omega) (by omega), w64 (x := 2 * (n : Int) + 1) (by omega) (by omega), wu64 (x := 2 * (n : Int) + 1) (by omega) (by omega), wu64 (x := (j : Int)) (by omega) (by omega), w64 (x := (i : Int) + (n : Int)) (by omega) (by omega)]
      refine Ev.bind (a := mkB (enc (2 * n + 1))) q1 ?_
      refine Ev.bind (a := mkB (enc j)) q2 ?_
      refine Base.Ev.ite_pos (by rw [mkB_size, mkB_size]; omega) ?_
      refine Base.Ev.ite_pos (by rw [mkB_size, mkB_size, mkB_size]; omega) ?_
      refine Base.Ev.ite_pos (by rw [mkB_size, mkB_size, mkB_size, mkB_size]; omega) ?_
      rw [mkB_append, mkB_append, mkB_append]
      exact s1
theorem l0_ev (base : List UInt8) (text : ByteArray) (hb : base.length ≤ 2000) (P : ByteArray → Prop)
    (h : ∀ M, okM base M → (4 ≤ base.length → dl_look M (keyv base : Int) = some 0) → ∃ r, Ev (fun k => delta_steps.l1 k (mkB base) text M (⟨#[]⟩ : ByteArray) 0 0) r ∧ P r) (d : Nat) :
    ∀ (i : Nat) (M : List (Int × Int)), base.length - i ≤ d → i ≤ base.length → okM base M → M.length ≤ i → (0 < i → 4 ≤ base.length → dl_look M (keyv base : Int) = some 0) → (i = 0 → M = []) →
      ∃ r, Ev (fun k => delta_steps.l0 k (mkB base) text M (i : Int)) r ∧ P r := by
  have fin : ∀ (i : Nat) (M : List (Int × Int)), ¬ i + 4 ≤ base.length → i ≤ base.length → okM base M → (0 < i → 4 ≤ base.length → dl_look M (keyv base : Int) = some 0) → ∃ r, Ev (fun k => delta_steps.l0 k (mkB base) text M (i : Int)) r ∧ P r := by
    intro i M h1 h2 h3 h4
    obtain ⟨r, r1, r2⟩ := h M h3 (fun h5 => h4 (by omega) h5)
    refine ⟨r, ?_, r2⟩
    refine Ev.step (fun k => by rw [delta_steps.l0]) ?_
    refine Base.Ev.ite_neg (by rw [mkB_size, w64 (by omega) (by omega)]; omega) ?_
    exact r1
  induction d with
  | zero => intro i M h1 h2 h3 h4 h5 h6; exact fin i M (by omega) h2 h3 h5
  | succ d ih =>
    intro i M h1 h2 h3 h4 h5 h6
    by_cases h7 : i + 4 ≤ base.length
    rotate_left
    · exact fin i M h7 h2 h3 h5
    have hkl : 4 ≤ (base.drop i).length := by simp; omega
    obtain ⟨hk1, hk2⟩ := key_eq (base.drop i) hkl
    have hkey : Ev (fun _ : Nat => delta_key.f ((mkB base).extract ((i : Int)).toNat (mkB base).size)) (keyv (base.drop i) : Int) := by
      rw [Int.toNat_natCast, mkB_drop, hk1]; exact Ev.now _
    cases hl : dl_look M (keyv (base.drop i) : Int) with
    | some v =>
      have hi0 : 0 < i := by
        rcases Nat.eq_zero_or_pos i with h0 | h0
        · rw [h6 h0] at hl; simp [dl_look] at hl
        · exact h0
      obtain ⟨r, r1, r2⟩ := ih (i + 1) M (by omega) (by omega) h3 (by omega) (fun _ => h5 hi0) (by omega)
      refine ⟨r, ?_, r2⟩
      refine Ev.step (fun k => by rw [delta_steps.l0]) ?_
      refine Base.Ev.ite_pos (by rw [mkB_size, w64 (by omega) (by omega)]; omega) ?_
      refine Base.Ev.ite_pos (by omega) ?_
      refine Base.Ev.ite_pos (by rw [mkB_size]; omega) ?_
      refine Ev.bind hkey ?_
      refine Base.Ev.ite_pos (by omega) ?_
      refine Base.Ev.ite_pos (by omega) ?_
      refine Base.Ev.ite_pos (by rw [hl]; rfl) ?_
      rw [w64 (by omega) (by omega)]
      exact r1
    | none =>
      have hok : okM base (((keyv (base.drop i) : Int), (i : Int)) :: M) := by
        intro k v hkv
        rw [look_cons] at hkv
        by_cases hq : (keyv (base.drop i) : Int) = k
        · rw [if_pos hq] at hkv
          cases hkv
          exact ⟨i, rfl, h7, hq.symm⟩
        · rw [if_neg hq] at hkv
          exact h3 k v hkv
      have hown : 0 < i + 1 → 4 ≤ base.length → dl_look (((keyv (base.drop i) : Int), (i : Int)) :: M) (keyv base : Int) = some 0 := by
        intro _ h8
        rw [look_cons]
        rcases Nat.eq_zero_or_pos i with h0 | h0
        · subst h0
          rw [List.drop_zero, if_pos rfl]; rfl
        · have h9 := h5 h0 h8
          rw [if_neg (by intro hq; rw [hq, h9] at hl; simp at hl)]
          exact h9
      obtain ⟨r, r1, r2⟩ := ih (i + 1) _ (by omega) (by omega) hok (by simp only [List.length_cons]; omega) hown (by omega)
      refine ⟨r, ?_, r2⟩
      refine Ev.step (fun k => by rw [delta_steps.l0]) ?_
      refine Base.Ev.ite_pos (by rw [mkB_size, w64 (by omega) (by omega)]; omega) ?_
      refine Base.Ev.ite_pos (by omega) ?_
      refine Base.Ev.ite_pos (by rw [mkB_size]; omega) ?_
      refine Ev.bind hkey ?_
      refine Base.Ev.ite_pos (by omega) ?_
      refine Base.Ev.ite_pos (by omega) ?_
      refine Base.Ev.ite_neg (by rw [hl]; simp) ?_
      refine Base.Ev.ite_pos (by omega) ?_
      refine Base.Ev.ite_pos (by omega) ?_
      rw [w64 (by omega) (by omega)]
      exact r1
theorem okM_nil (base : List UInt8) : okM base [] := by intro k v h; simp [dl_look] at h
theorem steps_ev (base text : List UInt8) (hb : base.length ≤ 2000) (ht : text.length ≤ 2000) : ∃ S, Ev (fun k => delta_steps.f k (mkB base) (mkB text)) (mkB S) ∧ Cod base S text ∧ S.length ≤ 31 * 2010 := by
  obtain ⟨r, r1, S, rfl, r2⟩ := l0_ev base (mkB text) hb (fun r => ∃ S, r = mkB S ∧ Cod base S text ∧ S.length ≤ 31 * 2010) (fun M hM _ => by
    obtain ⟨S, s1, s2⟩ := l1_ev base text hb ht M hM text.length 0 0 [] (by omega) (by omega) (by omega) (by simp) Cod.nil
    exact ⟨mkB S, s1, S, rfl, s2⟩) base.length 0 [] (by omega) (by omega) (okM_nil base) (by simp) (by omega) (fun _ => rfl)
  exact ⟨S, r1, r2⟩
theorem own_ev (base : List UInt8) (hb : base.length ≤ 2000) : ∃ S, Ev (fun k => delta_steps.f k (mkB base) (mkB base)) (mkB S) ∧ Cod base S base ∧ S.length ≤ 20 := by
  obtain ⟨r, r1, S, rfl, r2⟩ := l0_ev base (mkB base) hb (fun r => ∃ S, r = mkB S ∧ Cod base S base ∧ S.length ≤ 20) (fun M hM h0 => by
    by_cases h4 : 4 ≤ base.length
    · have hl := h0 h4
      obtain ⟨hk1, hk2⟩ := key_eq base h4
      have hkey : Ev (fun _ : Nat => delta_key.f ((mkB base).extract ((0 : Int)).toNat (mkB base).size)) (keyv base : Int) := by
        rw [show ((0 : Int)).toNat = 0 from rfl, mkB_drop, List.drop_zero, hk1]; exact Ev.now _
      have e1 := enc_length10 (2 * base.length + 1) (by omega)
      have e2 := enc_length10 0 (by omega)
      refine ⟨mkB (enc (2 * base.length + 1) ++ enc 0), ?_, _, rfl, ?_, by simp only [List.length_append]; omega⟩
      · refine Ev.step (fun k => by rw [delta_steps.l1]) ?_
        refine Base.Ev.ite_pos (by rw [mkB_size, w64 (by omega) (by omega)]; omega) ?_
        refine Base.Ev.ite_pos (by omega) ?_
        refine Base.Ev.ite_pos (by rw [mkB_size]; omega) ?_
        refine Ev.bind hkey ?_
        refine Base.Ev.ite_pos (by omega) ?_
        refine Base.Ev.ite_pos (by omega) ?_
        refine Base.Ev.ite_pos (by rw [hl]; rfl) ?_
        simp only [hl, Option.getD_some]
        refine Base.Ev.ite_pos (by omega) ?_
        refine Base.Ev.ite_pos (by rw [mkB_size]; omega) ?_
        rw [show ((0 : Int)).toNat = 0 from rfl, mkB_drop, List.drop_zero, mkB_take]
        have ha := alike_ev base base (by omega)
        rw [cp_self] at ha
        refine Ev.bind ha ?_
        refine Base.Ev.ite_pos (by omega) ?_
        refine Base.Ev.ite_pos (by omega) ?_
        refine Ev.bind (a := mkB (pl [])) (by rw [List.take_zero]; exact plain_ev [] (by simp)) ?_
        have q1 := put_ev (2 * base.length + 1) (by omega)
        have q2 := put_ev 0 (by omega)
        rw [w64 (x := 2 * (base.length : Int)) (by omega) (by omega), w64 (x := 2 * (base.length : Int) + 1) (by omega) (by omega), wu64 (x := 2 * (base.length : Int) + 1) (by omega) (by omega), wu64 (x := 0) (by omega) (by omega), w64 (x := 0 + (base.length : Int)) (by omega) (by omega)]
        refine Ev.bind (a := mkB (enc (2 * base.length + 1))) q1 ?_
        refine Ev.bind (a := mkB (enc 0)) q2 ?_
        have hp : (pl []).length = 0 := rfl
        refine Base.Ev.ite_pos (by rw [mkB_size, mkB_size]; omega) ?_
        refine Base.Ev.ite_pos (by rw [mkB_size, mkB_size, mkB_size]; omega) ?_
        refine Base.Ev.ite_pos (by rw [mkB_size, mkB_size, mkB_size]; show 0 + _ ≤ _; omega) ?_
        refine Ev.step (fun k => by rw [delta_steps.l1]) ?_
        refine Base.Ev.ite_neg (by rw [mkB_size, w64 (by omega) (by omega)]; omega) ?_
        refine Base.Ev.ite_pos (by omega) ?_
        refine Base.Ev.ite_pos (by rw [mkB_size]; omega) ?_
        rw [show (0 + (base.length : Int)).toNat = base.length by omega, mkB_drop, List.drop_of_length_le (Nat.le_refl _)]
        refine Ev.bind (plain_ev [] (by simp)) ?_
        rw [mkB_nil, mkB_append, mkB_append, mkB_append, mkB_append]
        refine Base.Ev.ite_pos (by rw [mkB_size, mkB_size]; simp only [List.length_append, List.length_nil]; omega) ?_
        refine Base.Ev.eq ?_ (Ev.now _)
        simp [pl]
      · have := cpy_cod base base.length 0 (by omega) (by omega) (by omega)
        rw [List.drop_zero, List.take_length] at this
        exact this
    · have hp := pl_length base (by omega)
      refine ⟨mkB (pl base), ?_, _, rfl, pl_cod base base (by omega), by omega⟩
      refine Ev.step (fun k => by rw [delta_steps.l1]) ?_
      refine Base.Ev.ite_neg (by rw [mkB_size, w64 (by omega) (by omega)]; omega) ?_
      refine Base.Ev.ite_pos (by omega) ?_
      refine Base.Ev.ite_pos (by rw [mkB_size]; omega) ?_
      rw [show ((0 : Int)).toNat = 0 from rfl, mkB_drop, List.drop_zero]
      refine Ev.bind (plain_ev base (by omega)) ?_
      rw [mkB_nil, mkB_append, List.nil_append]
      exact Base.Ev.ite_pos (by rw [mkB_size, mkB_size]; simp only [List.length_nil]; omega) (Ev.now _)) base.length 0 [] (by omega) (by omega) (okM_nil base) (by simp) (by omega) (fun _ => rfl)
  exact ⟨S, r1, r2⟩
theorem make_of (base text S : List UInt8) (hb : base.length ≤ 2000) (ht : text.length ≤ 2000) (h : Ev (fun k => delta_steps.f k (mkB base) (mkB text)) (mkB S)) (hc : Cod base S text) (hS : S.length ≤ 31 * 2010) :
    ∃ O, Ev (fun k => delta_Make.f k (mkB base) (mkB text)) (mkB (enc base.length ++ enc text.length ++ O)) ∧ Cod base O text ∧ O.length ≤ S.length ∧ O.length ≤ 10 + text.length := by
  have hp := pl_length text (by omega)
  have e1 := enc_length10 base.length (by omega)
  have e2 := enc_length10 text.length (by omega)
  have q1 := put_ev base.length (by omega)
  have q2 := put_ev text.length (by omega)
  have w1 : IntKind.u64.wrap ((mkB base).size : Int) = (base.length : Int) := by rw [mkB_size, wu64 (by omega) (by omega)]
  have w2 : IntKind.u64.wrap ((mkB text).size : Int) = (text.length : Int) := by rw [mkB_size, wu64 (by omega) (by omega)]
  by_cases hlt : (pl text).length < S.length
  · refine ⟨pl text, ?_, pl_cod base text (by omega), by omega, by omega⟩
    unfold delta_Make.f
    refine Ev.bind h ?_
    refine Ev.bind (plain_ev text (by omega)) ?_
    refine Base.Ev.ite_pos (by rw [mkB_size, mkB_size]; omega) ?_
    rw [w1, w2]
    refine Ev.bind q1 ?_
    refine Ev.bind q2 ?_
    refine Base.Ev.ite_pos (by rw [mkB_size, mkB_size]; omega) ?_
    refine Base.Ev.ite_pos (by rw [mkB_append, mkB_size, mkB_size]; simp only [List.length_append]; omega) ?_
    rw [mkB_append, mkB_append]; exact Ev.now _
  · refine ⟨S, ?_, hc, Nat.le_refl _, by omega⟩
    unfold delta_Make.f
    refine Ev.bind h ?_
    refine Ev.bind (plain_ev text (by omega)) ?_
    refine Base.Ev.ite_neg (by rw [mkB_size, mkB_size]; omega) ?_
    rw [w1, w2]
    refine Ev.bind q1 ?_
    refine Ev.bind q2 ?_
    refine Base.Ev.ite_pos (by rw [mkB_size, mkB_size]; omega) ?_
    refine Base.Ev.ite_pos (by rw [mkB_append, mkB_size, mkB_size]; simp only [List.length_append]; omega) ?_
    rw [mkB_append, mkB_append]; exact Ev.now _
/-! ### what such a delta tells -/
theorem heads2_made (b t : Nat) (O : List UInt8) (hb : b < 18446744073709551616) (ht : t < 18446744073709551616) : heads2 (enc b ++ enc t ++ O) = some (b, t, O) := by
  unfold heads2
  rw [List.append_assoc, dec_enc0 _ _ hb]
  simp only
  rw [dec_enc0 _ _ ht]
theorem appl_made (base text O : List UInt8) (hb : base.length ≤ 2000) (ht : text.length ≤ 2000) (hc : Cod base O text) : appl base (enc base.length ++ enc text.length ++ O) (text.length : Int) = (text, 0) := by
  unfold appl
  rw [heads2_made _ _ _ (by omega) (by omega), if_neg (by omega)]
  simp only
  rw [if_pos trivial, if_neg (by omega), hc.run [] text.length O.length (by simp) (Nat.le_refl _)]
  rfl
theorem appl_less (base text O : List UInt8) (hb : base.length ≤ 2000) (ht : text.length ≤ 2000) (h0 : text ≠ []) : appl base (enc base.length ++ enc text.length ++ O) ((text.length : Int) - 1) = ([], 3) := by
  have := List.length_pos_iff.2 h0
  unfold appl
  rw [heads2_made _ _ _ (by omega) (by omega), if_neg (by omega)]
  simp only
  rw [if_pos trivial, if_pos (by omega)]
theorem appl_other (base base2 text O : List UInt8) (hb : base.length ≤ 2000) (ht : text.length ≤ 2000) (h0 : base.length ≠ base2.length) : appl base2 (enc base.length ++ enc text.length ++ O) (text.length : Int) = ([], 6) := by
  unfold appl
  rw [heads2_made _ _ _ (by omega) (by omega), if_neg (by omega)]
  simp only
  rw [if_neg h0]
theorem sized_made (b t : Nat) (O : List UInt8) (hb : b ≤ 2000) (ht : t ≤ 2000) : sized (enc b ++ enc t ++ O) = ((t : Int), 0) := by
  unfold sized
  rw [heads2_made _ _ _ (by omega) (by omega)]
  simp only
  rw [if_neg (by omega)]
end Go.Proofs.Ytnmnplbjhejejaa.Dm
