/- The law's step as one function of the net, and its contract; link.New; the law's knows. -/
import Derived.Test.YtnmnplbjhejejaaLk6
import Derived.Test.YtnmnplbjhejejaaLk7
import Derived.Test.YtnmnplbjhejejaaLk8
import Derived.Test.YtnmnplbjhejejaaLkb
import Derived.Test.YtnmnplbjhejejaaLka
import Derived.Laws.BitsAllLaws
import Derived.Test.YtnmnplbjhejejaaLk4
import Derived.Test.YtnmnplbjhejejaaPAx2
set_option linter.unusedVariables false
set_option linter.unusedSimpArgs false
namespace Go.Proofs.Ytnmnplbjhejejaa.Lk
open Go.RowKit Go.Proofs.YtnmnplbjhejejaaW.PrintWords Go.Proofs.YtnmnplbjhejejaaW.PrintLast Go.Proofs.YtnmnplbjhejejaaW.PrintMore Go.Proofs.Ytnmnplbjhejejaa.PA

def sendS (k : Nat) (N : NS) (K : Fin 2) (s : Fin 6) (x2 : ByteArray) : Option NS :=
  (sendF k (N.e K).parts x2).bind fun ps => if (N.l s).length ≤ 1000000 then some { N with e := upd N.e K { N.e K with parts := ps }, l := upd N.l s (N.l s ++ [x2]) } else none
def tickS (k : Nat) (N : NS) (K : Fin 2) (wo : Fin 6) : Option NS :=
  (tickF k (N.e K)).bind fun s => if (N.l wo).length ≤ 1000000 then some { N with l := upd N.l wo (N.l wo ++ [s]) } else none
def wayAt (l : List ByteArray) (x3 : Int) : Option ByteArray := l[x3.toNat % l.length]?
def recvS (k : Nat) (N : NS) (K : Fin 2) (wy t : Fin 6) (x3 : Int) : Option NS :=
  if (N.l wy).length = 0 then some N
  else (wayAt (N.l wy) x3).bind fun s => (recvF k (N.e K) s).bind fun r =>
    if r.2.2 = true ∧ r.2.1.length ≤ 1 ∧ N.fine = true ∧ (N.l wy).length ≤ 1000000 ∧ (N.l t).length ≤ 1000000 then some { N with e := upd N.e K r.1, l := upd N.l t (N.l t ++ r.2.1), fine := true } else none
def turnAt (s : ByteArray) (x4 x5 : Int) : ByteArray := turnS s (x4.toNat % s.size) (s.data.toList.getD (x4.toNat % s.size) 0 ^^^ UInt8.ofNat x5.toNat)
def turnedS (k : Nat) (N : NS) (K : Fin 2) (wy : Fin 6) (x3 x4 x5 : Int) : Option NS :=
  if (N.l wy).length = 0 then some N
  else if x5 = 0 then some N
  else (wayAt (N.l wy) x3).bind fun s => if 0 < s.size then (recvF k (N.e K) (turnAt s x4 x5)).bind fun r =>
    if r.2.2 = false ∧ r.2.1 = [] ∧ N.fine = true ∧ (N.l wy).length ≤ 1000000 then some { N with e := upd N.e K r.1, fine := true } else none
    else none
def stepK (k : Nat) (N : NS) (K : Fin 2) (wy wo s t : Fin 6) (x : S66) : Option NS :=
  if Int.tmod x.f0 6 = 0 then sendS k N K s x.f2
  else if Int.tmod x.f0 6 = 1 then tickS k N K wo
  else if Int.tmod x.f0 6 = 2 then tickS k N K wo
  else if Int.tmod x.f0 6 = 3 then recvS k N K wy t x.f3
  else if Int.tmod x.f0 6 = 4 then recvS k N K wy t x.f3
  else turnedS k N K wy x.f3 x.f4 x.f5
def okS (x : S66) : Prop := (0 ≤ x.f0 ∧ x.f0 ≤ 255) ∧ (0 ≤ x.f1 ∧ x.f1 ≤ 255) ∧ (0 ≤ x.f3 ∧ x.f3 ≤ 255) ∧ (0 ≤ x.f4 ∧ x.f4 ≤ 255) ∧ (0 ≤ x.f5 ∧ x.f5 ≤ 255)
instance (x : S66) : Decidable (okS x) := by unfold okS; infer_instance
def stepF (k : Nat) (N : NS) (x : S66) : Option NS :=
  if okS x then (if Int.tmod x.f1 2 = 0 then stepK k N 0 0 1 2 4 x else stepK k N 1 1 0 3 5 x) else none

theorem tmod_of (x : Int) (m : Nat) (h : 0 ≤ x) : Int.tmod x (m : Int) = ((x.toNat % m : Nat) : Int) := by
  obtain ⟨n, rfl⟩ := Int.eq_ofNat_of_zero_le h
  rw [Int.tmod_eq_emod_of_nonneg h, Int.toNat_natCast]
  rfl
theorem bits_xor_u8 (a : UInt8) (x : Int) (h0 : 0 ≤ x) (h1 : x ≤ 255) : Go.bits .xor .u8 (a.toNat : Int) x = ((a ^^^ UInt8.ofNat x.toNat).toNat : Int) := by
  obtain ⟨n, rfl⟩ := Int.eq_ofNat_of_zero_le h0
  rw [Int.toNat_natCast, u8_xor_nat _ _ a.toNat_lt (by omega), UInt8.toNat_xor, UInt8.toNat_ofNat']
  rw [show n % 2 ^ 8 = n by omega]
abbrev stepArgs (n : Nat) (x : S66) : Array Value := #[.pointer (some ⟨n, 0, none⟩), .agg #[.int .u8 x.f0, .int .u8 x.f1, .string x.f2, .int .u8 x.f3, .int .u8 x.f4, .int .u8 x.f5]]
abbrev StepTo (B : Nat) (w0 : World) (n : Nat) (x : S66) (w : World) (N' : NS) : Prop := Calls Try.prog 36 (stepArgs n x) w fun e w' => e = .returned (.tuple #[]) ∧ ∃ V', NetB B w0 w' n V' N'
theorem upd_nil {α : Type} (f : Fin 6 → List α) (i : Fin 6) : upd f i (f i) = f := by
  funext j
  unfold upd
  split
  · next h => rw [h]
  · rfl
section
variable {k B : Nat} {w0 w : World} {n : Nat} {V : NV} {N N' : NS} {x : S66}
theorem step_recv0 (h : NetB B w0 w n V N) (ho : okS x) (hw : Int.tmod x.f0 6 = 3 ∨ Int.tmod x.f0 6 = 4) (ht : Int.tmod x.f1 2 = 0) (hs : recvS k N 0 0 4 x.f3 = some N') : StepTo B w0 n x w N' := by
  unfold recvS at hs
  by_cases h0 : (N.l 0).length = 0
  · rw [if_pos h0] at hs
    obtain rfl := Option.some.inj hs
    rcases hw with hw | hw
    · exact step_still0_3 k B w0 n V N x.f0 x.f1 x.f3 x.f4 x.f5 x.f2 w h hw ht h0
    · exact step_still0_4 k B w0 n V N x.f0 x.f1 x.f3 x.f4 x.f5 x.f2 w h hw ht h0
  · rw [if_neg h0] at hs
    obtain ⟨s, hsj, hs⟩ := Option.bind_eq_some_iff.mp hs
    obtain ⟨⟨E', r, ok⟩, hr, hs⟩ := Option.bind_eq_some_iff.mp hs
    by_cases hc : ok = true ∧ r.length ≤ 1 ∧ N.fine = true ∧ (N.l 0).length ≤ 1000000 ∧ (N.l 4).length ≤ 1000000
    · rw [if_pos hc] at hs
      obtain rfl := Option.some.inj hs
      obtain ⟨rfl, hr1, hf, hl0, hl4⟩ := hc
      obtain ⟨g, off, cap, hv, hcap, _⟩ := (h.net.rows 0).form2 (by omega)
      have hj : x.f3.toNat % (N.l 0).length < (N.l 0).length := Nat.mod_lt _ (by omega)
      have hjm := tmod_of x.f3 (N.l 0).length ho.2.2.1.1
      match r, hr1 with
      | [], _ =>
        rcases hw with hw | hw
        · exact step_recv0_3_none k B w0 n V N x.f0 x.f1 x.f3 x.f4 x.f5 x.f2 w h s E' _ g off cap ho.2.2.1 hv hcap (by omega) hl0 hj hjm hsj hf hw ht hr hl4
        · exact step_recv0_4_none k B w0 n V N x.f0 x.f1 x.f3 x.f4 x.f5 x.f2 w h s E' _ g off cap ho.2.2.1 hv hcap (by omega) hl0 hj hjm hsj hf hw ht hr hl4
      | [m], _ =>
        rcases hw with hw | hw
        · exact step_recv0_3_one k B w0 n V N x.f0 x.f1 x.f3 x.f4 x.f5 x.f2 w h s E' m _ g off cap ho.2.2.1 hv hcap (by omega) hl0 hj hjm hsj hf hw ht hr hl4
        · exact step_recv0_4_one k B w0 n V N x.f0 x.f1 x.f3 x.f4 x.f5 x.f2 w h s E' m _ g off cap ho.2.2.1 hv hcap (by omega) hl0 hj hjm hsj hf hw ht hr hl4
      | _ :: _ :: _, h => exact absurd h (by simp)
    · rw [if_neg hc] at hs
      exact absurd hs (by simp)
theorem step_recv1 (h : NetB B w0 w n V N) (ho : okS x) (hw : Int.tmod x.f0 6 = 3 ∨ Int.tmod x.f0 6 = 4) (ht : Int.tmod x.f1 2 = 1) (hs : recvS k N 1 1 5 x.f3 = some N') : StepTo B w0 n x w N' := by
  unfold recvS at hs
  by_cases h0 : (N.l 1).length = 0
  · rw [if_pos h0] at hs
    obtain rfl := Option.some.inj hs
    rcases hw with hw | hw
    · exact step_still1_3 k B w0 n V N x.f0 x.f1 x.f3 x.f4 x.f5 x.f2 w h hw ht h0
    · exact step_still1_4 k B w0 n V N x.f0 x.f1 x.f3 x.f4 x.f5 x.f2 w h hw ht h0
  · rw [if_neg h0] at hs
    obtain ⟨s, hsj, hs⟩ := Option.bind_eq_some_iff.mp hs
    obtain ⟨⟨E', r, ok⟩, hr, hs⟩ := Option.bind_eq_some_iff.mp hs
    by_cases hc : ok = true ∧ r.length ≤ 1 ∧ N.fine = true ∧ (N.l 1).length ≤ 1000000 ∧ (N.l 5).length ≤ 1000000
    · rw [if_pos hc] at hs
      obtain rfl := Option.some.inj hs
      obtain ⟨rfl, hr1, hf, hl0, hl4⟩ := hc
      obtain ⟨g, off, cap, hv, hcap, _⟩ := (h.net.rows 1).form2 (by omega)
      have hj : x.f3.toNat % (N.l 1).length < (N.l 1).length := Nat.mod_lt _ (by omega)
      have hjm := tmod_of x.f3 (N.l 1).length ho.2.2.1.1
      match r, hr1 with
      | [], _ =>
        rcases hw with hw | hw
        · exact step_recv1_3_none k B w0 n V N x.f0 x.f1 x.f3 x.f4 x.f5 x.f2 w h s E' _ g off cap ho.2.2.1 hv hcap (by omega) hl0 hj hjm hsj hf hw ht hr hl4
        · exact step_recv1_4_none k B w0 n V N x.f0 x.f1 x.f3 x.f4 x.f5 x.f2 w h s E' _ g off cap ho.2.2.1 hv hcap (by omega) hl0 hj hjm hsj hf hw ht hr hl4
      | [m], _ =>
        rcases hw with hw | hw
        · exact step_recv1_3_one k B w0 n V N x.f0 x.f1 x.f3 x.f4 x.f5 x.f2 w h s E' m _ g off cap ho.2.2.1 hv hcap (by omega) hl0 hj hjm hsj hf hw ht hr hl4
        · exact step_recv1_4_one k B w0 n V N x.f0 x.f1 x.f3 x.f4 x.f5 x.f2 w h s E' m _ g off cap ho.2.2.1 hv hcap (by omega) hl0 hj hjm hsj hf hw ht hr hl4
      | _ :: _ :: _, h => exact absurd h (by simp)
    · rw [if_neg hc] at hs
      exact absurd hs (by simp)
theorem step_turn0 (h : NetB B w0 w n V N) (ho : okS x) (hw : Int.tmod x.f0 6 = 5) (ht : Int.tmod x.f1 2 = 0) (hs : turnedS k N 0 0 x.f3 x.f4 x.f5 = some N') : StepTo B w0 n x w N' := by
  unfold turnedS at hs
  by_cases h0 : (N.l 0).length = 0
  · rw [if_pos h0] at hs
    obtain rfl := Option.some.inj hs
    exact step_still0_5 k B w0 n V N x.f0 x.f1 x.f3 x.f4 x.f5 x.f2 w h hw ht h0
  · rw [if_neg h0] at hs
    by_cases h5 : x.f5 = 0
    · rw [if_pos h5] at hs
      obtain rfl := Option.some.inj hs
      exact step_noby0 k B w0 n V N x.f0 x.f1 x.f3 x.f4 x.f5 x.f2 w h hw ht (by omega) h5
    · rw [if_neg h5] at hs
      obtain ⟨s, hsj, hs⟩ := Option.bind_eq_some_iff.mp hs
      by_cases hz : 0 < s.size
      · rw [if_pos hz] at hs
        obtain ⟨⟨E', r, ok⟩, hr, hs⟩ := Option.bind_eq_some_iff.mp hs
        by_cases hc : ok = false ∧ r = [] ∧ N.fine = true ∧ (N.l 0).length ≤ 1000000
        · rw [if_pos hc] at hs
          obtain rfl := Option.some.inj hs
          obtain ⟨rfl, rfl, hf, hl0⟩ := hc
          obtain ⟨g, off, cap, hv, hcap, _⟩ := (h.net.rows 0).form2 (by omega)
          have hj : x.f3.toNat % (N.l 0).length < (N.l 0).length := Nat.mod_lt _ (by omega)
          have ho' := ho
          obtain ⟨_, _, h3, h4, h5'⟩ := ho'
          exact step_turned0 k B w0 n V N x.f0 x.f1 x.f3 x.f4 x.f5 x.f2 w h s E' _ g off cap h3 hv hcap (by omega) hl0 hj (tmod_of x.f3 (N.l 0).length h3.1) hsj ⟨by omega, h5'.2⟩ hz hf _ (Nat.mod_lt _ hz) (tmod_of x.f4 s.size h4.1) h4 _
            (bits_xor_u8 _ x.f5 h5'.1 h5'.2) hr hw ht
        · rw [if_neg hc] at hs
          exact absurd hs (by simp)
      · rw [if_neg hz] at hs
        exact absurd hs (by simp)
theorem step_turn1 (h : NetB B w0 w n V N) (ho : okS x) (hw : Int.tmod x.f0 6 = 5) (ht : Int.tmod x.f1 2 = 1) (hs : turnedS k N 1 1 x.f3 x.f4 x.f5 = some N') : StepTo B w0 n x w N' := by
  unfold turnedS at hs
  by_cases h0 : (N.l 1).length = 0
  · rw [if_pos h0] at hs
    obtain rfl := Option.some.inj hs
    exact step_still1_5 k B w0 n V N x.f0 x.f1 x.f3 x.f4 x.f5 x.f2 w h hw ht h0
  · rw [if_neg h0] at hs
    by_cases h5 : x.f5 = 0
    · rw [if_pos h5] at hs
      obtain rfl := Option.some.inj hs
      exact step_noby1 k B w0 n V N x.f0 x.f1 x.f3 x.f4 x.f5 x.f2 w h hw ht (by omega) h5
    · rw [if_neg h5] at hs
      obtain ⟨s, hsj, hs⟩ := Option.bind_eq_some_iff.mp hs
      by_cases hz : 0 < s.size
      · rw [if_pos hz] at hs
        obtain ⟨⟨E', r, ok⟩, hr, hs⟩ := Option.bind_eq_some_iff.mp hs
        by_cases hc : ok = false ∧ r = [] ∧ N.fine = true ∧ (N.l 1).length ≤ 1000000
        · rw [if_pos hc] at hs
          obtain rfl := Option.some.inj hs
          obtain ⟨rfl, rfl, hf, hl0⟩ := hc
          obtain ⟨g, off, cap, hv, hcap, _⟩ := (h.net.rows 1).form2 (by omega)
          have hj : x.f3.toNat % (N.l 1).length < (N.l 1).length := Nat.mod_lt _ (by omega)
          have ho' := ho
          obtain ⟨_, _, h3, h4, h5'⟩ := ho'
          exact step_turned1 k B w0 n V N x.f0 x.f1 x.f3 x.f4 x.f5 x.f2 w h s E' _ g off cap h3 hv hcap (by omega) hl0 hj (tmod_of x.f3 (N.l 1).length h3.1) hsj ⟨by omega, h5'.2⟩ hz hf _ (Nat.mod_lt _ hz) (tmod_of x.f4 s.size h4.1) h4 _
            (bits_xor_u8 _ x.f5 h5'.1 h5'.2) hr hw ht
        · rw [if_neg hc] at hs
          exact absurd hs (by simp)
      · rw [if_neg hz] at hs
        exact absurd hs (by simp)
theorem step_calls (h : NetB B w0 w n V N) (hs : stepF k N x = some N') : StepTo B w0 n x w N' := by
  unfold stepF at hs
  by_cases ho : okS x
  · rw [if_pos ho] at hs
    have h6 : Int.tmod x.f0 6 = 0 ∨ Int.tmod x.f0 6 = 1 ∨ Int.tmod x.f0 6 = 2 ∨ Int.tmod x.f0 6 = 3 ∨ Int.tmod x.f0 6 = 4 ∨ Int.tmod x.f0 6 = 5 := by
      have := tmod_of x.f0 6 ho.1.1
      rw [show ((6 : Nat) : Int) = 6 from rfl] at this
      have := Nat.mod_lt x.f0.toNat (show 6 > 0 by omega)
      omega
    have h2 : Int.tmod x.f1 2 = 0 ∨ Int.tmod x.f1 2 = 1 := by
      have := tmod_of x.f1 2 ho.2.1.1
      rw [show ((2 : Nat) : Int) = 2 from rfl] at this
      have := Nat.mod_lt x.f1.toNat (show 2 > 0 by omega)
      omega
    rcases h2 with ht | ht
    · rw [if_pos ht] at hs
      unfold stepK at hs
      rcases h6 with hw | hw | hw | hw | hw | hw
      · rw [if_pos hw] at hs
        unfold sendS at hs
        obtain ⟨ps, hp, hs⟩ := Option.bind_eq_some_iff.mp hs
        by_cases hl : (N.l 2).length ≤ 1000000
        · rw [if_pos hl] at hs
          obtain rfl := Option.some.inj hs
          exact step_send0 k B w0 n V N x.f0 x.f1 x.f3 x.f4 x.f5 x.f2 ps w h hw ht hp hl
        · rw [if_neg hl] at hs
          exact absurd hs (by simp)
      · rw [if_neg (by omega), if_pos hw] at hs
        unfold tickS at hs
        obtain ⟨s, hp, hs⟩ := Option.bind_eq_some_iff.mp hs
        by_cases hl : (N.l 1).length ≤ 1000000
        · rw [if_pos hl] at hs
          obtain rfl := Option.some.inj hs
          exact step_tick0_1 k B w0 n V N x.f0 x.f1 x.f3 x.f4 x.f5 x.f2 w h s hw ht hp hl
        · rw [if_neg hl] at hs
          exact absurd hs (by simp)
      · rw [if_neg (by omega), if_neg (by omega), if_pos hw] at hs
        unfold tickS at hs
        obtain ⟨s, hp, hs⟩ := Option.bind_eq_some_iff.mp hs
        by_cases hl : (N.l 1).length ≤ 1000000
        · rw [if_pos hl] at hs
          obtain rfl := Option.some.inj hs
          exact step_tick0_2 k B w0 n V N x.f0 x.f1 x.f3 x.f4 x.f5 x.f2 w h s hw ht hp hl
        · rw [if_neg hl] at hs
          exact absurd hs (by simp)
      · rw [if_neg (by omega), if_neg (by omega), if_neg (by omega), if_pos hw] at hs
        exact step_recv0 h ho (.inl hw) ht hs
      · rw [if_neg (by omega), if_neg (by omega), if_neg (by omega), if_neg (by omega), if_pos hw] at hs
        exact step_recv0 h ho (.inr hw) ht hs
      · rw [if_neg (by omega), if_neg (by omega), if_neg (by omega), if_neg (by omega), if_neg (by omega)] at hs
        exact step_turn0 h ho hw ht hs
    · rw [if_neg (by omega)] at hs
      unfold stepK at hs
      rcases h6 with hw | hw | hw | hw | hw | hw
      · rw [if_pos hw] at hs
        unfold sendS at hs
        obtain ⟨ps, hp, hs⟩ := Option.bind_eq_some_iff.mp hs
        by_cases hl : (N.l 3).length ≤ 1000000
        · rw [if_pos hl] at hs
          obtain rfl := Option.some.inj hs
          exact step_send1_ k B w0 n V N x.f0 x.f1 x.f3 x.f4 x.f5 x.f2 w h ps hw ht hp hl
        · rw [if_neg hl] at hs
          exact absurd hs (by simp)
      · rw [if_neg (by omega), if_pos hw] at hs
        unfold tickS at hs
        obtain ⟨s, hp, hs⟩ := Option.bind_eq_some_iff.mp hs
        by_cases hl : (N.l 0).length ≤ 1000000
        · rw [if_pos hl] at hs
          obtain rfl := Option.some.inj hs
          exact step_tick1_1 k B w0 n V N x.f0 x.f1 x.f3 x.f4 x.f5 x.f2 w h s hw ht hp hl
        · rw [if_neg hl] at hs
          exact absurd hs (by simp)
      · rw [if_neg (by omega), if_neg (by omega), if_pos hw] at hs
        unfold tickS at hs
        obtain ⟨s, hp, hs⟩ := Option.bind_eq_some_iff.mp hs
        by_cases hl : (N.l 0).length ≤ 1000000
        · rw [if_pos hl] at hs
          obtain rfl := Option.some.inj hs
          exact step_tick1_2 k B w0 n V N x.f0 x.f1 x.f3 x.f4 x.f5 x.f2 w h s hw ht hp hl
        · rw [if_neg hl] at hs
          exact absurd hs (by simp)
      · rw [if_neg (by omega), if_neg (by omega), if_neg (by omega), if_pos hw] at hs
        exact step_recv1 h ho (.inl hw) ht hs
      · rw [if_neg (by omega), if_neg (by omega), if_neg (by omega), if_neg (by omega), if_pos hw] at hs
        exact step_recv1 h ho (.inr hw) ht hs
      · rw [if_neg (by omega), if_neg (by omega), if_neg (by omega), if_neg (by omega), if_neg (by omega)] at hs
        exact step_turn1 h ho hw ht hs
  · rw [if_neg ho] at hs
    exact absurd hs (by simp)
end
end Go.Proofs.Ytnmnplbjhejejaa.Lk
namespace Go.Proofs.Ytnmnplbjhejejaa.Lk
open Go.RowKit Go.Proofs.YtnmnplbjhejejaaW.PrintWords Go.Proofs.YtnmnplbjhejejaaW.PrintLast Go.Proofs.YtnmnplbjhejejaaW.PrintMore Go.Proofs.Ytnmnplbjhejejaa.PA
attribute [local go_sem] max2_int min2_int max_two min_two max_three min_three max_four min_four

def newEn (c : Int) : En := ⟨c, [], 1, 0, ⟨#[]⟩⟩
theorem new_calls (c : Int) (w : World) (h0 : 0 ≤ c) (h1 : c ≤ 4294967295) :
    Calls Try.prog 34 #[.int .u32 c] w fun e w' => e = .returned (.pointer (some ⟨w.heap.size, 0, none⟩)) ∧ w' = w.alloc (.cells (endCells (.slice none 0 0) (newEn c)) 85) := by
  have e1 : IntKind.u64.wrap c = c := by simp [IntKind.wrap, IntKind.bits, IntKind.signed]; omega
  go_enter Try.func34, Try.ntmps34
  go_wp2
  go_ret
  exact ⟨rfl, rfl⟩
theorem new_end (c : Int) (w : World) : IsEnd (w.alloc (.cells (endCells (.slice none 0 0) (newEn c)) 85)) w.heap.size (.slice none 0 0) (newEn c) :=
  ⟨heap_alloc_new w _, Rw.nil _ _ _, by simp [Value.ownBlock]⟩
def hiB : ByteArray := ⟨#[104, 105]⟩
def rowB : ByteArray := ⟨#[7, 1, 1, 2, 104, 105, 0]⟩
def knowsF (k : Nat) : Option Bool :=
  (sendF k [] hiB).bind fun ps => (recvF k { newEn 7 with parts := ps } ⟨#[]⟩).bind fun r =>
    if r.2.1 = [] ∧ r.2.2 = false ∧ r.1.parts.length ≠ 0 then
      (tickF k r.1).bind fun s1 => (knapsackref03_Seal.f k rowB).bind fun s2 => if s1 = s2 then some true else none
    else none
set_option maxHeartbeats 8000000 in
set_option maxRecDepth 100000 in
theorem knows_calls (k : Nat) (r : Bool) (w : World) (h : knowsF k = some r) : Calls Try.prog 35 #[] w fun e w' => e = .returned (.bool r) ∧ Below w.heap.size w w' := by
  unfold knowsF at h
  obtain ⟨ps, hps, h⟩ := Option.bind_eq_some_iff.mp h
  obtain ⟨⟨E2, r2, ok⟩, hr, h⟩ := Option.bind_eq_some_iff.mp h
  by_cases hc : r2 = [] ∧ ok = false ∧ E2.parts.length ≠ 0
  · rw [if_pos hc] at h
    obtain ⟨rfl, rfl, hne⟩ := hc
    obtain ⟨s1, h1, h⟩ := Option.bind_eq_some_iff.mp h
    obtain ⟨s2, h2, h⟩ := Option.bind_eq_some_iff.mp h
    by_cases hs : s1 = s2
    · rw [if_pos hs] at h
      obtain rfl := Option.some.inj h
      subst hs
      have A1 := Aside0.mk hps
      have A2 := Aside0.mk hr
      have A3 := Aside0.mk h1
      have A4 := Aside0.mk h2
      have hd : decide (E2.parts.length = 0) = false := decide_eq_false hne
      have hd2 : (E2.parts = []) = False := eq_false (fun e => hne (by rw [e]; rfl))
      clear hps hr h1 h2 hne h
      go_enter Try.func35, Try.ntmps35
      go_wp2_with (first
        | (go_at_call 34; refine (new_calls 7 _ (by decide) (by decide)).mono ?_; rintro e w1 ⟨rfl, hw1⟩; have HE1 := Aside0.mk (show IsEnd w1 w.heap.size (.slice none 0 0) (newEn 7) by rw [hw1]; exact new_end 7 w); have HB1 := Aside0.mk (show Below w.heap.size w w1 by rw [hw1]; exact (Below.refl _ _).alloc (Nat.le_refl _) _); clear hw1)
        | (go_at_call 47; refine (send_calls k _ _ (newEn 7) hiB ps _ HE1.out A1.out).mono ?_; rintro e w2 ⟨rfl, pv2, hE2, hK2, hF2⟩; have HE2 := Aside0.mk hE2; have HB2 := Aside0.mk (show Below w.heap.size w w2 from below_kp HB1.out (Nat.le_refl _) hK2 (fun g x => x.elim (fun e => by omega) (fun e => by simp [Value.ownBlock] at e))); clear hE2 hK2 hF2)
        | (go_at_call 39; refine (recv_calls k _ _ _ E2 ⟨#[]⟩ [] false _ HE2.out A2.out).mono ?_; rintro e w3 ⟨tv, pv3, rfl, hE3, hK3, hR3, hT3, hT3', hP3⟩; obtain rfl := hT3' rfl; have HE3 := Aside0.mk hE3; have HB3 := Aside0.mk (show Below w.heap.size w w3 from below_kp HB2.out (Nat.le_refl _) hK3 (fun g e => by omega)); clear hE3 hK3 hR3 hT3 hT3' hP3)
        | (go_at_call 40; refine (tick_calls k _ _ E2 s1 _ HE3.out A3.out).mono ?_; rintro e w4 ⟨rfl, hb4⟩; have HE4 := Aside0.mk (HE3.out.below hb4); have HB4 := Aside0.mk (show Below w.heap.size w w4 from HB3.out.trans (hb4.mono HB3.out.size)); clear hb4)
        | (go_at_call 18; refine (knapsackref03_Seal.calls k rowB s1 _ A4.out).mono ?_; rintro e w5 ⟨rfl, hb5⟩; have HE5 := Aside0.mk (HE4.out.below hb5); have HB5 := Aside0.mk (show Below w.heap.size w w5 from HB4.out.trans (hb5.mono HB4.out.size)); clear hb5)
        | (go_at_call 42; refine (idle_calls _ _ E2 _ HE5.out).mono ?_; rintro e w6 ⟨rfl, rfl⟩))
      all_goals go_ret
      all_goals exact ⟨rfl, HB5.out⟩
    · rw [if_neg hs] at h
      exact absurd h (by simp)
  · rw [if_neg hc] at h
    exact absurd h (by simp)
end Go.Proofs.Ytnmnplbjhejejaa.Lk
