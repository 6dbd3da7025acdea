/- link, in plain Lean: a message's parts, what is told of parts; packets' bytes; what an end does with them. -/
import Derived.Lib.Strings
import Derived.Test.YtnmnplbjhejejaaLkd
import Derived.Test.YtnmnplbjhejejaaCr
import Derived.Test.YtnmnplbjhejejaaVg
set_option linter.unusedVariables false
set_option linter.unusedSimpArgs false
namespace Go.Proofs.Ytnmnplbjhejejaa.Lp

abbrev Pt := ByteArray × Bool
def nobytes : ByteArray := ⟨#[]⟩

/-! ### a message's parts -/
def partsGo : Nat → ByteArray → List Pt
  | 0, m => [(m, true)]
  | k + 1, m => if (m.size : Int) > 200 then (m.extract 0 200, false) :: partsGo k (m.extract 200 m.size) else [(m, true)]
def partsOf (m : ByteArray) : List Pt := partsGo m.size m
theorem size_cut (m : ByteArray) (h : 200 < m.size) : (m.extract 200 m.size).size = m.size - 200 := by simp
theorem cut_join (m : ByteArray) (h : 200 < m.size) : m.extract 0 200 ++ m.extract 200 m.size = m := by
  rw [ByteArray.extract_append_extract, Nat.min_eq_left (by omega), Nat.max_eq_right (by omega)]
  simp
theorem partsGo_fuel : ∀ (k j : Nat) (m : ByteArray), m.size ≤ k → m.size ≤ j → partsGo k m = partsGo j m
  | 0, 0, m, _, _ => rfl
  | 0, j + 1, m, h, _ => by
    rw [partsGo, partsGo, if_neg (by omega)]
  | k + 1, 0, m, _, h => by
    rw [partsGo, partsGo, if_neg (by omega)]
  | k + 1, j + 1, m, h1, h2 => by
    rw [partsGo, partsGo]
    by_cases c : (m.size : Int) > 200
    · have hs := size_cut m (by omega)
      rw [if_pos c, if_pos c, partsGo_fuel k j _ (by omega) (by omega)]
    · rw [if_neg c, if_neg c]
theorem partsGo_length : ∀ (k : Nat) (m : ByteArray), (partsGo k m).length ≤ k + 1
  | 0, m => by simp [partsGo]
  | k + 1, m => by
    rw [partsGo]
    split
    · have := partsGo_length k (m.extract 200 m.size)
      simp only [List.length_cons]; omega
    · simp
theorem partsOf_length (m : ByteArray) : (partsOf m).length ≤ m.size + 1 := partsGo_length _ _
theorem partsGo_small : ∀ (k : Nat) (m : ByteArray), m.size ≤ k → ∀ p ∈ partsGo k m, p.1.size ≤ 200
  | 0, m, h, p, hp => by
    simp only [partsGo, List.mem_singleton] at hp
    subst hp; show m.size ≤ 200; omega
  | k + 1, m, h, p, hp => by
    rw [partsGo] at hp
    by_cases c : (m.size : Int) > 200
    · rw [if_pos c, List.mem_cons] at hp
      rcases hp with rfl | hp
      · show (m.extract 0 200).size ≤ 200
        simp only [ByteArray.size_extract]; omega
      · exact partsGo_small k _ (by rw [size_cut m (by omega)]; omega) p hp
    · rw [if_neg c, List.mem_singleton] at hp
      subst hp; show m.size ≤ 200; omega

/-! ### what is told of parts -/
def takeAll : List Pt → List ByteArray × ByteArray → List ByteArray × ByteArray
  | [], s => s
  | p :: ps, s => takeAll ps (if p.2 = true then (s.1 ++ [s.2 ++ p.1], nobytes) else (s.1, s.2 ++ p.1))
theorem takeAll_append (a b : List Pt) (s : List ByteArray × ByteArray) : takeAll (a ++ b) s = takeAll b (takeAll a s) := by
  induction a generalizing s with
  | nil => rfl
  | cons p a ih => exact ih _
theorem ba_append_assoc (a b c : ByteArray) : a ++ b ++ c = a ++ (b ++ c) := by
  apply ByteArray.ext; simp
theorem nobytes_append (a : ByteArray) : nobytes ++ a = a := by
  apply ByteArray.ext; simp [nobytes]
theorem takeAll_partsGo : ∀ (k : Nat) (m : ByteArray) (t : List ByteArray) (x : ByteArray), takeAll (partsGo k m) (t, x) = (t ++ [x ++ m], nobytes)
  | 0, m, t, x => by simp [partsGo, takeAll]
  | k + 1, m, t, x => by
    rw [partsGo]
    by_cases c : (m.size : Int) > 200
    · rw [if_pos c]
      show takeAll (partsGo k _) (t, x ++ m.extract 0 200) = _
      rw [takeAll_partsGo k, ba_append_assoc, cut_join m (by omega)]
    · rw [if_neg c]
      simp [takeAll]
theorem takeAll_all (sent : List ByteArray) (t : List ByteArray) : takeAll (sent.flatMap partsOf) (t, nobytes) = (t ++ sent, nobytes) := by
  induction sent generalizing t with
  | nil => simp [takeAll]
  | cons m l ih =>
    rw [List.flatMap_cons, takeAll_append, partsOf, takeAll_partsGo, ih, nobytes_append]
    simp
theorem takeAll_prefix (ps : List Pt) (s : List ByteArray × ByteArray) : s.1 <+: (takeAll ps s).1 := by
  induction ps generalizing s with
  | nil => exact List.prefix_rfl
  | cons p ps ih =>
    refine List.IsPrefix.trans ?_ (ih _)
    split
    · exact List.prefix_append _ _
    · exact List.prefix_rfl
theorem told_prefix (sent : List ByteArray) (n : Nat) : (takeAll ((sent.flatMap partsOf).take n) ([], nobytes)).1 <+: sent := by
  have h := takeAll_prefix ((sent.flatMap partsOf).drop n) (takeAll ((sent.flatMap partsOf).take n) ([], nobytes))
  rw [← takeAll_append, List.take_append_drop, takeAll_all] at h
  exact h
theorem takeAll_text (ps : List Pt) (hs : ∀ p ∈ ps, p.1.size ≤ 200) (s : List ByteArray × ByteArray) : (takeAll ps s).2.size ≤ s.2.size + 200 * ps.length := by
  induction ps generalizing s with
  | nil => simp [takeAll]
  | cons p ps ih =>
    have h1 := hs p (by simp)
    have h2 := ih (fun q hq => hs q (by simp [hq])) (if p.2 = true then (s.1 ++ [s.2 ++ p.1], nobytes) else (s.1, s.2 ++ p.1))
    rw [takeAll, List.length_cons]
    refine Nat.le_trans h2 ?_
    split
    · simp only [nobytes]; show 0 + _ ≤ _; omega
    · simp only [ByteArray.size_append]; omega

/-! ### one way: from the end that sent to the end that is told -/
/-- What a packet is of: number, part, what was taken. -/
structure Pk where
  number : Nat
  text : ByteArray
  last : Bool
  took : Nat
/-- A packet that may be on the way: all is what the sender's parts were, na how many of them were confirmed, ta how many it took. -/
def PkOk (all : List Pt) (na ta : Nat) (p : Pk) : Prop :=
  p.took ≤ ta ∧ ((p.number = 0 ∧ p.text = nobytes ∧ p.last = false) ∨ (1 ≤ p.number ∧ p.number ≤ na + 1 ∧ all[p.number - 1]? = some (p.text, p.last)))
/-- na: how many of the sender's parts were confirmed; tb: how many the other one took; ta: how many the sender took. -/
structure Flow (sent : List ByteArray) (aparts : List Pt) (na ta tb : Nat) (btext : ByteArray) (told : List ByteArray) (way : List Pk) : Prop where
  parts : aparts = (sent.flatMap partsOf).drop na
  le1 : na ≤ tb
  le2 : tb ≤ na + 1
  le3 : tb ≤ (sent.flatMap partsOf).length
  got : takeAll ((sent.flatMap partsOf).take tb) ([], nobytes) = (told, btext)
  way : ∀ p ∈ way, PkOk (sent.flatMap partsOf) na ta p
section
variable {sent : List ByteArray} {aparts : List Pt} {na ta tb : Nat} {btext : ByteArray} {told : List ByteArray} {way : List Pk}
theorem Flow.told_prefix (h : Flow sent aparts na ta tb btext told way) : told <+: sent := by
  have := Lp.told_prefix sent tb
  rw [h.got] at this
  exact this
theorem Flow.all_told (h : Flow sent aparts na ta tb btext told way) (hn : aparts = []) : told = sent := by
  have h1 : (sent.flatMap partsOf).length ≤ na := by
    have := h.parts
    rw [hn] at this
    exact List.drop_eq_nil_iff.mp this.symm
  have h2 := h.got
  rw [List.take_of_length_le (by have := h.le1; omega), takeAll_all] at h2
  simpa using (congrArg Prod.fst h2).symm
theorem PkOk.more {all all' : List Pt} {na' ta' : Nat} {p : Pk} (h : PkOk all na ta p) (hn : na ≤ na') (ht : ta ≤ ta') (ha : all <+: all') : PkOk all' na' ta' p := by
  refine ⟨Nat.le_trans h.1 ht, ?_⟩
  rcases h.2 with h2 | ⟨h1, h2, h3⟩
  · exact .inl h2
  · refine .inr ⟨h1, by omega, ?_⟩
    obtain ⟨x, rfl⟩ := ha
    rw [List.getElem?_append_left (List.getElem?_eq_some_iff.mp h3).1]
    exact h3
theorem Flow.send (h : Flow sent aparts na ta tb btext told way) (x : ByteArray) : Flow (sent ++ [x]) (aparts ++ partsOf x) na ta tb btext told way := by
  have e : (sent ++ [x]).flatMap partsOf = sent.flatMap partsOf ++ partsOf x := by simp
  have l3 := h.le3
  have l1 := h.le1
  refine ⟨?_, h.le1, h.le2, ?_, ?_, ?_⟩
  · rw [e, List.drop_append_of_le_length (by omega), h.parts]
  · rw [e, List.length_append]; omega
  · rw [e, List.take_append_of_le_length (by omega)]; exact h.got
  · intro p hp
    rw [e]
    exact (h.way p hp).more (Nat.le_refl _) (Nat.le_refl _) (List.prefix_append _ _)
/-- The packet that an end sends. -/
def tickPk (aparts : List Pt) (na ta : Nat) : Pk :=
  match aparts with
  | [] => ⟨0, nobytes, false, ta⟩
  | p :: _ => ⟨na + 1, p.1, p.2, ta⟩
theorem Flow.tick_ok (h : Flow sent aparts na ta tb btext told way) : PkOk (sent.flatMap partsOf) na ta (tickPk aparts na ta) := by
  have hp := h.parts
  unfold tickPk
  cases aparts with
  | nil => exact ⟨Nat.le_refl _, .inl ⟨rfl, rfl, rfl⟩⟩
  | cons p l =>
    refine ⟨Nat.le_refl _, .inr ⟨by simp, by simp, ?_⟩⟩
    have : (p :: l)[0]? = ((sent.flatMap partsOf).drop na)[0]? := by rw [hp]
    rw [List.getElem?_drop] at this
    simpa using this.symm
theorem Flow.tick (h : Flow sent aparts na ta tb btext told way) : Flow sent aparts na ta tb btext told (way ++ [tickPk aparts na ta]) := by
  refine { h with way := ?_ }
  intro p hp
  rcases List.mem_append.mp hp with hp | hp
  · exact h.way p hp
  · rw [List.mem_singleton] at hp
    subst hp; exact h.tick_ok
/-- The sender took more. -/
theorem Flow.took (h : Flow sent aparts na ta tb btext told way) {ta' : Nat} (ht : ta ≤ ta') : Flow sent aparts na ta' tb btext told way :=
  { h with way := fun p hp => (h.way p hp).more (Nat.le_refl _) ht List.prefix_rfl }
/-- The sender is told that its first part was taken. -/
theorem Flow.confirm (h : Flow sent aparts na ta tb btext told way) (ht : na + 1 ≤ tb) : Flow sent aparts.tail (na + 1) ta tb btext told way := by
  refine { h with parts := ?_, le1 := ht, le2 := by have := h.le2; omega, way := ?_ }
  · rw [h.parts, List.tail_drop]
  · exact fun p hp => (h.way p hp).more (by omega) (Nat.le_refl _) List.prefix_rfl
/-- The other end takes the next part. -/
def nextTold (told : List ByteArray) (btext : ByteArray) (p : Pk) : List ByteArray × ByteArray := if p.last = true then (told ++ [btext ++ p.text], nobytes) else (told, btext ++ p.text)
theorem Flow.next (h : Flow sent aparts na ta tb btext told way) {p : Pk} (hp : PkOk (sent.flatMap partsOf) na ta p) (hn : p.number = tb + 1) :
    na = tb ∧ Flow sent aparts na ta (tb + 1) (nextTold told btext p).2 (nextTold told btext p).1 way := by
  rcases hp.2 with ⟨h0, _⟩ | ⟨h1, h2, h3⟩
  · omega
  have l1 := h.le1
  have l2 := h.le2
  rw [hn, Nat.add_sub_cancel] at h3
  refine ⟨by omega, { h with le1 := by omega, le2 := by omega, le3 := (List.getElem?_eq_some_iff.mp h3).1, got := ?_ }⟩
  obtain ⟨hlt, he⟩ := List.getElem?_eq_some_iff.mp h3
  rw [List.take_succ_eq_append_getElem hlt, takeAll_append, h.got, he]
  rfl
end
end Go.Proofs.Ytnmnplbjhejejaa.Lp
namespace Go.Proofs.Ytnmnplbjhejejaa.Lp
open Go.RowKit Go.Proofs.YtnmnplbjhejejaaW.PrintWords Go.Proofs.YtnmnplbjhejejaaW.PrintLast Go.Proofs.YtnmnplbjhejejaaW.PrintMore Go.Proofs.Ytnmnplbjhejejaa.PA Go.Proofs.Ytnmnplbjhejejaa.Base Go.Proofs.Ytnmnplbjhejejaa.Lk
open Go.Proofs.Ytnmnplbjhejejaa.Vi (enc dec enc_length10 dec_enc0)
open Go.Proofs.Ytnmnplbjhejejaa.Vi
open Go.Proofs.Ytnmnplbjhejejaa.Cr (seal_ open_ seal_length open_seal open_turned seal_ev open_ev opened)

theorem mkB_self (s : ByteArray) : mkB s.data.toList = s := by cases s; simp [mkB]
def lastL (b : Bool) : UInt8 := if b = true then 1 else 0
def bodyL (c n : Nat) (text : List UInt8) (last : Bool) (took : Nat) : List UInt8 := enc c ++ (enc n ++ (lastL last :: ((enc text.length ++ text) ++ enc took)))
def pktL (c n : Nat) (text : List UInt8) (last : Bool) (took : Nat) : List UInt8 := seal_ (bodyL c n text last took)
def pktB (p : Pk) : ByteArray := mkB (pktL 3 p.number p.text.data.toList p.last p.took)
theorem bodyL_length (c n : Nat) (text : List UInt8) (last : Bool) (took : Nat) (hc : c < 18446744073709551616) (hn : n < 18446744073709551616) (ht : text.length ≤ 100000) (hk : took < 18446744073709551616) : (bodyL c n text last took).length ≤ 200000 := by
  have h1 := enc_length10 c hc
  have h2 := enc_length10 n hn
  have h3 := enc_length10 took hk
  have h4 := enc_length10 text.length (by omega)
  simp only [bodyL, List.length_append, List.length_cons]
  omega
theorem pkt_ev (c n : Nat) (text : List UInt8) (last : Bool) (took : Nat) (hc : c < 18446744073709551616) (hn : n < 18446744073709551616) (ht : text.length ≤ 100000) (hk : took < 18446744073709551616) :
    Ev (fun k => link_packet_bytes.f k (c : Int) (n : Int) (mkB text) last (took : Int)) (mkB (pktL c n text last took)) := by
  have h1 := enc_length10 c hc
  have h2 := enc_length10 n hn
  have h3 := enc_length10 took hk
  have h4 := enc_length10 text.length (by omega)
  have key : ∀ x : UInt8, Ev (fun k => link_packet_bytes.j0 k (mkB [x]) (c : Int) (n : Int) (mkB text) last (took : Int)) (mkB (seal_ (enc c ++ (enc n ++ (x :: ((enc text.length ++ text) ++ enc took)))))) := by
    intro x
    refine Ev.step (fun k => by rw [link_packet_bytes.j0]) ?_
    refine Ev.bind (put_ev c hc) ?_
    refine Ev.bind (put_ev n hn) ?_
    refine Base.Ev.ite_pos (by rw [mkB_size, mkB_size]; omega) ?_
    refine Base.Ev.ite_pos (by rw [mkB_append, mkB_size, mkB_size]; simp only [List.length_append, List.length_cons, List.length_nil]; omega) ?_
    refine Ev.bind (text_ev text (by omega)) ?_
    refine Base.Ev.ite_pos (by rw [mkB_append, mkB_append, mkB_size, mkB_size]; simp only [List.length_append, List.length_cons, List.length_nil]; omega) ?_
    refine Ev.bind (put_ev took hk) ?_
    refine Base.Ev.ite_pos (by rw [mkB_append, mkB_append, mkB_append, mkB_size, mkB_size]; simp only [List.length_append, List.length_cons, List.length_nil]; omega) ?_
    have e : mkB (enc c) ++ mkB (enc n) ++ mkB [x] ++ mkB (enc text.length ++ text) ++ mkB (enc took) = mkB (enc c ++ (enc n ++ (x :: ((enc text.length ++ text) ++ enc took)))) := by
      rw [mkB_append, mkB_append, mkB_append, mkB_append]
      simp
    rw [e]
    refine Ev.bind (seal_ev _ (by simp only [List.length_append, List.length_cons]; omega)) ?_
    exact Ev.now _
  unfold link_packet_bytes.f
  cases last with
  | true => exact Base.Ev.ite_pos rfl (key 1)
  | false => exact Base.Ev.ite_neg (by simp) (key 0)
theorem read_ev (c n : Nat) (text : List UInt8) (last : Bool) (took : Nat) (hc : c < 18446744073709551616) (hn : n < 18446744073709551616) (ht : text.length ≤ 100000) (hk : took < 18446744073709551616) :
    Ev (fun k => link_read.f k (mkB (pktL c n text last took))) ((c : Int), (n : Int), mkB text, last, (took : Int), true) := by
  have hb := bodyL_length c n text last took hc hn ht hk
  have hs := seal_length (bodyL c n text last took)
  unfold link_read.f
  have e1 := open_ev (pktL c n text last took) (by unfold pktL; omega)
  rw [pktL, open_seal] at e1
  refine Ev.bind e1 ?_
  have hrest : (enc n ++ (lastL last :: ((enc text.length ++ text) ++ enc took))).length ≤ 200000 := by
    have := hb; unfold bodyL at this; rw [List.length_append] at this; omega
  have hrest2 : (lastL last :: ((enc text.length ++ text) ++ enc took)).length ≤ 200000 := by rw [List.length_append] at hrest; omega
  have e2 := get_ev (bodyL c n text last took) (by omega)
  rw [bodyL, dec_enc0 c _ hc] at e2
  refine Ev.bind e2 ?_
  have e3 := get_ev (enc n ++ (lastL last :: ((enc text.length ++ text) ++ enc took))) (by omega)
  rw [dec_enc0 n _ hn] at e3
  refine Ev.bind e3 ?_
  refine Base.Ev.ite_pos rfl ?_
  refine Base.Ev.ite_pos rfl ?_
  refine Base.Ev.ite_pos rfl ?_
  have hpos : 0 < (lastL last :: ((enc text.length ++ text) ++ enc took)).length := by simp
  have hbt : bt (mkB (lastL last :: ((enc text.length ++ text) ++ enc took))) 0 = ((lastL last).toNat : Int) := mkB_bt _ 0 hpos
  show Ev (fun k => if (mkB (lastL last :: ((enc text.length ++ text) ++ enc took))).toList = [] then link_read.j0 k (mkB (lastL last :: ((enc text.length ++ text) ++ enc took))) (c : Int) (n : Int) true else if 0 < ((mkB (lastL last :: ((enc text.length ++ text) ++ enc took))).size : Int) then link_read.j0 k (mkB (lastL last :: ((enc text.length ++ text) ++ enc took))) (c : Int) (n : Int) (decide (bt (mkB (lastL last :: ((enc text.length ++ text) ++ enc took))) 0 > 1)) else none) _
  refine Base.Ev.ite_neg (by rw [mkB_toList]; simp) ?_
  refine Base.Ev.ite_pos (by rw [mkB_size]; simp; omega) ?_
  rw [hbt]
  have hd : decide (((lastL last).toNat : Int) > 1) = false := by cases last <;> rfl
  rw [hd]
  refine Ev.step (fun k => by rw [link_read.j0]) ?_
  refine Base.Ev.ite_neg (by simp) ?_
  refine Base.Ev.ite_pos (by rw [mkB_size]; simp; omega) ?_
  refine Base.Ev.ite_pos (by rw [mkB_size]; simp; omega) ?_
  rw [mkB_drop]
  show Ev (fun k => (varint_Take.f k (mkB ((enc text.length ++ text) ++ enc took))).bind _) _
  have e4 := take_ev ((enc text.length ++ text) ++ enc took) (by rw [List.length_cons] at hrest2; omega)
  rw [tak_text text (enc took) (by omega)] at e4
  refine Ev.bind e4 ?_
  have e5 := get_ev (enc took) (by have := enc_length10 took hk; omega)
  have e6 := dec_enc0 took [] hk
  rw [List.append_nil] at e6
  rw [e6] at e5
  refine Ev.bind e5 ?_
  refine Base.Ev.ite_pos rfl ?_
  refine Base.Ev.ite_pos rfl ?_
  refine Base.Ev.ite_pos (mkB_toList []) ?_
  rw [hbt]
  have hl : (((lastL last).toNat : Int) == 1) = last := by cases last <;> rfl
  rw [hl]
  exact Ev.now _
theorem read_bad (l : List UInt8) (n : Nat) (hl : l.length ≤ 9223372036854775000) (h : open_ l = ([], n)) (hn : n ≠ 0) : Ev (fun k => link_read.f k (mkB l)) (0, 0, (⟨#[]⟩ : ByteArray), false, 0, false) := by
  unfold link_read.f
  have e1 := open_ev l hl
  rw [h] at e1
  refine Ev.bind e1 ?_
  have e2 := get_ev [] (by simp)
  rw [show dec 0 [] = none from rfl] at e2
  refine Ev.bind e2 ?_
  refine Ev.bind e2 ?_
  refine Base.Ev.ite_neg (by show ¬ ((n : Int) = 0); omega) ?_
  refine Ev.step (fun k => by rw [link_read.j0]) ?_
  refine Base.Ev.ite_pos rfl ?_
  exact Ev.now _
/-- A packet with a byte turned is none. -/
theorem read_turned (c n : Nat) (text : List UInt8) (last : Bool) (took : Nat) (hb : (pktL c n text last took).length ≤ 1000000) (t : Nat) (ht : t < (pktL c n text last took).length) (y : UInt8) (hy : (pktL c n text last took)[t] ≠ y) :
    Ev (fun k => link_read.f k (mkB ((pktL c n text last took).set t y))) (0, 0, (⟨#[]⟩ : ByteArray), false, 0, false) := by
  have hsp : pktL c n text last took = (pktL c n text last took).take t ++ (pktL c n text last took)[t] :: (pktL c n text last took).drop (t + 1) := by
    rw [← List.drop_eq_getElem_cons ht, List.take_append_drop]
  have hset : (pktL c n text last took).set t y = (pktL c n text last took).take t ++ y :: (pktL c n text last took).drop (t + 1) := by
    rw [List.set_eq_take_append_cons_drop, if_pos ht]
  refine read_bad _ 5 (by rw [List.length_set]; omega) ?_ (by decide)
  rw [hset]
  exact open_turned _ _ _ _ y hsp hy

/-! ### what an end does -/
theorem wu (n : Nat) (h : n < 18446744073709551616) : IntKind.u64.wrap (n : Int) = (n : Int) := wu64 (by omega) (by omega)
theorem tickF_ev (E : En) (na ta : Nat) (hc : E.conn = 3) (hn : E.number = ((na + 1 : Nat) : Int)) (ht : E.took = (ta : Int)) (hna : na ≤ 1000000) (hta : ta ≤ 1000000) (hs : ∀ p ∈ E.parts, p.1.size ≤ 100000) :
    Ev (fun k => tickF k E) (pktB (tickPk E.parts na ta)) := by
  unfold tickF tickPk pktB
  rw [hc, hn, ht]
  cases hp : E.parts with
  | nil => exact pkt_ev 3 0 [] false ta (by omega) (by omega) (by simp) (by omega)
  | cons p l =>
    have h1 := hs p (by rw [hp]; simp)
    have h2 := pkt_ev 3 (na + 1) p.1.data.toList p.2 ta (by omega) (by omega) (by simpa using h1) (by omega)
    rw [mkB_self] at h2
    exact h2
/-- What Receive comes to. -/
def confE (E : En) (na : Nat) (p : Pk) : En := if E.parts ≠ [] ∧ p.took = na + 1 then headOff E else E
def recvTo (E : En) (na ta : Nat) (p : Pk) : En × List ByteArray :=
  if p.number = ta + 1 then ({ confE E na p with took := ((ta + 1 : Nat) : Int), text := if p.last = true then nobytes else E.text ++ p.text }, if p.last = true then [E.text ++ p.text] else []) else (confE E na p, [])
theorem confE_text (E : En) (na : Nat) (p : Pk) : (confE E na p).text = E.text := by unfold confE; split <;> rfl
theorem restF_eq (E : En) (ta : Nat) (p : Pk) (ht : E.took = (ta : Int)) (hta : ta ≤ 1000000) (hsz : E.text.size + p.text.size ≤ 9223372036854775807) :
    restF E (p.number : Int) p.text p.last = some (if p.number = ta + 1 then ({ E with took := ((ta + 1 : Nat) : Int), text := if p.last = true then nobytes else E.text ++ p.text }, if p.last = true then [E.text ++ p.text] else [], true) else (E, [], true)) := by
  unfold restF
  have e : IntKind.u64.wrap (E.took + 1) = ((ta + 1 : Nat) : Int) := by rw [ht]; exact wu (ta + 1) (by omega)
  rw [e]
  by_cases h : p.number = ta + 1
  · rw [if_pos (by omega), if_pos h]
    unfold takeF
    rw [if_pos hsz, e]
    cases p.last <;> rfl
  · rw [if_neg (by omega), if_neg h]
theorem recvF_ev (E : En) (na ta : Nat) (p : Pk) (hc : E.conn = 3) (hn : E.number = ((na + 1 : Nat) : Int)) (ht : E.took = (ta : Int)) (hna : na ≤ 1000000) (hta : ta ≤ 1000000)
    (hp1 : p.number ≤ 2000000) (hp2 : p.took ≤ 2000000) (hp3 : p.text.size ≤ 100000) (hx : E.text.size ≤ 1000000000) :
    Ev (fun k => recvF k E (pktB p)) ((recvTo E na ta p).1, (recvTo E na ta p).2, true) := by
  have h1 := read_ev 3 p.number p.text.data.toList p.last p.took (by omega) (by omega) (by simpa using hp3) (by omega)
  rw [mkB_self] at h1
  unfold recvF
  refine Ev.bind h1 ?_
  refine Base.Ev.ite_pos rfl ?_
  refine Base.Ev.ite_pos (by rw [hc]; rfl) ?_
  have fin : ∀ E1 : En, E1 = confE E na p → E1.took = (ta : Int) → Ev (fun k => restF E1 (p.number : Int) p.text p.last) ((recvTo E na ta p).1, (recvTo E na ta p).2, true) := by
    intro E1 h1 h2
    have h3 : E1.text = E.text := by rw [h1, confE_text]
    rw [restF_eq E1 ta p h2 hta (by rw [h3]; omega)]
    unfold recvTo
    rw [← h1, h3]
    by_cases hnum : p.number = ta + 1
    · simp only [if_pos hnum]; exact Ev.now _
    · simp only [if_neg hnum]; exact Ev.now _
  by_cases hpar : E.parts = []
  · refine Base.Ev.ite_neg (by rw [hpar]; simp) ?_
    exact fin E (by unfold confE; rw [if_neg (fun x => x.1 hpar)]) ht
  · refine Base.Ev.ite_pos (List.length_pos_iff.mpr hpar) ?_
    by_cases hk : p.took = na + 1
    · refine Base.Ev.ite_pos (by show (p.took : Int) = _; rw [hn, hk]) ?_
      exact fin (headOff E) (by unfold confE; rw [if_pos ⟨hpar, hk⟩]) ht
    · refine Base.Ev.ite_neg (by show ¬ ((p.took : Int) = _); rw [hn]; omega) ?_
      exact fin E (by unfold confE; rw [if_neg (fun x => hk x.2)]) ht
theorem recvF_bad (E : En) (l : List UInt8) (h : Ev (fun k => link_read.f k (mkB l)) (0, 0, (⟨#[]⟩ : ByteArray), false, 0, false)) : Ev (fun k => recvF k E (mkB l)) (E, [], false) := by
  unfold recvF
  refine Ev.bind h ?_
  refine Base.Ev.ite_neg (by simp) ?_
  exact Ev.now _
end Go.Proofs.Ytnmnplbjhejejaa.Lp
