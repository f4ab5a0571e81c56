/- The laws RegionQuotes and RegionUnquotes, walked. -/
import Derived.Test.YtdjhicbhegaenaaGreatDoorQuoC
import Derived.Test.YtdjhicbhegaenaaGreatDoorQuoD
namespace Go.Proofs.YtdjhicbhegaenaaGreatDoor.Quo
open Go Go.Proofs Go.RowKit

theorem ne_list {a b : ByteArray} (h : ¬ a = b) : (a.toList == b.toList) = false := by
  rw [beq_eq_false_iff_ne, ByteArray.toList_eq, ByteArray.toList_eq]
  intro e
  refine h ?_
  cases a; cases b
  simp at e
  rw [e]
/-- What the sanity check does, at whatever world in which the listed variables hold what is laid. -/
def Awake : Prop := ∀ w, Glob w → Calls Tryz.prog 7 #[] w fun e w' => e = .returned (.bool true) ∧ Below w.heap.size w w'

/-- A quotation, read back. -/
def unesc (x : UInt8) : UInt8 := if x = 110 then 10 else if x = 114 then 13 else if x = 116 then 9 else x
def un : List UInt8 → List UInt8
  | [] => []
  | [c] => [c]
  | c :: x :: r => if c = 92 then unesc x :: un r else c :: un (x :: r)
theorem un_two (x : UInt8) (r : List UInt8) : un (92 :: x :: r) = unesc x :: un r := by simp [un]
theorem un_one (c : UInt8) (h : c ≠ 92) (r : List UInt8) : un (c :: r) = c :: un r := by
  cases r with
  | nil => rfl
  | cons x r => simp [un, h]
theorem un_qc (c : UInt8) (r : List UInt8) : un (qc c ++ r) = c :: un r := by
  unfold qc
  split
  · rename_i h; subst h; exact un_two 34 r
  · split
    · rename_i h; subst h; exact un_two 92 r
    · split
      · rename_i h; subst h; exact un_two 110 r
      · split
        · rename_i h; subst h; exact un_two 114 r
        · split
          · rename_i h; subst h; exact un_two 116 r
          · rename_i h _ _ _
            exact un_one c h r
theorem un_flat : ∀ l : List UInt8, un (l.flatMap qc) = l
  | [] => rfl
  | c :: l => by rw [List.flatMap_cons, un_qc, un_flat l]
theorem quote_inj {l m : List UInt8} (h : quote l = quote m) : l = m := by
  have h : 34 :: (l.flatMap qc ++ [34]) = 34 :: (m.flatMap qc ++ [34]) := h
  injection h with _ h
  have := List.append_cancel_right h
  rw [← un_flat l, this, un_flat]
theorem quote_len (l : List UInt8) : l.length + 2 ≤ (quote l).length := by
  have : ∀ l : List UInt8, l.length ≤ (l.flatMap qc).length := fun l => by
    induction l with
    | nil => simp
    | cons c l ih =>
      have h1 : 1 ≤ (qc c).length := by
        unfold qc
        repeat (split; · decide)
        simp
      simp only [List.flatMap_cons, List.length_cons, List.length_append]
      omega
  have := this l
  simp only [quote, qs, List.cons_append, List.length_cons, List.length_append, List.length_nil]
  omega
theorem quote_len2 (l : List UInt8) : (quote l).length ≤ 2 * l.length + 2 := by
  have := qs_len l
  simp only [quote, List.length_append, List.length_cons, List.length_nil]
  omega
def fine (c : UInt8) : Prop := c ≠ 10 ∧ c ≠ 13 ∧ c ≠ 9
theorem qc_fine (c : UInt8) : ∀ x ∈ qc c, fine x := by
  intro x hx
  unfold qc at hx
  split at hx
  · simp at hx; rcases hx with rfl | rfl <;> exact ⟨by decide, by decide, by decide⟩
  · split at hx
    · simp at hx; subst hx; exact ⟨by decide, by decide, by decide⟩
    · split at hx
      · simp at hx; rcases hx with rfl | rfl <;> exact ⟨by decide, by decide, by decide⟩
      · split at hx
        · simp at hx; rcases hx with rfl | rfl <;> exact ⟨by decide, by decide, by decide⟩
        · split at hx
          · simp at hx; rcases hx with rfl | rfl <;> exact ⟨by decide, by decide, by decide⟩
          · rename_i h10 h13 h9
            simp at hx; subst hx; exact ⟨h10, h13, h9⟩
theorem quote_fine (l : List UInt8) : ∀ x ∈ quote l, fine x := by
  intro x hx
  simp only [quote, qs, List.mem_append, List.mem_cons, List.mem_flatMap, List.not_mem_nil, or_false] at hx
  rcases hx with (rfl | ⟨c, _, h⟩) | rfl
  · exact ⟨by decide, by decide, by decide⟩
  · exact qc_fine c x h
  · exact ⟨by decide, by decide, by decide⟩
/-- The quotation of a text, as a text. -/
def quoteS (s : ByteArray) : ByteArray := ⟨(quote s.data.toList).toArray⟩
theorem quoteS_size (s : ByteArray) : s.size + 2 ≤ (quoteS s).size ∧ (quoteS s).size ≤ 2 * s.size + 2 := by
  have h1 := quote_len s.data.toList
  have h2 := quote_len2 s.data.toList
  have e : (quoteS s).size = (quote s.data.toList).length := by show (quote s.data.toList).toArray.size = _; simp
  have e2 : s.data.toList.length = s.size := by show s.data.toList.length = s.data.size; simp
  omega
theorem quoteS_fine (s : ByteArray) (k : Nat) (h : k < (quoteS s).size) : fine (quoteS s)[k] := by
  have h' : k < (quote s.data.toList).length := by
    have e : (quoteS s).size = (quote s.data.toList).length := by show (quote s.data.toList).toArray.size = _; simp
    omega
  have := quote_fine s.data.toList _ (List.getElem_mem h')
  exact this
theorem quoteS_inj {s t : ByteArray} (h : quoteS s = quoteS t) : s = t := by
  have h1 : (quote s.data.toList).toArray = (quote t.data.toList).toArray := congrArg ByteArray.data h
  have h2 : quote s.data.toList = quote t.data.toList := by simpa using congrArg Array.toList h1
  have h3 := quote_inj h2
  cases s; cases t
  simp at h3
  rw [h3]
set_option maxHeartbeats 4000000 in
set_option maxRecDepth 1000000 in
theorem quotes_walk (aw : Awake) (s : ByteArray) (hs : s.size ≤ maxLen) (w : World) (hg : Glob w) :
    Calls Tryz.prog 3 #[.string s] w fun e w' => e = .returned (.bool true) ∧ Below w.heap.size w w' := by
  unfold maxLen at hs
  by_cases h : 5000 < s.size
  · have hd : decide ((s.size : Int) > 5000) = true := by simp; omega
    go_enter Tryz.func3, Tryz.ntmps3
    go_wp2_with (go_at_call 7; refine (aw _ hg).mono ?_; rintro e w' ⟨rfl, hb⟩)
    go_ret
    exact ⟨rfl, hb⟩
  · have hs' : s.size ≤ 5000 := by omega
    have hd : decide ((s.size : Int) > 5000) = false := by simp; omega
    go_enter Tryz.func3, Tryz.ntmps3
    go_wp2_with (go_at_call 5; refine (quote_walk s _ hs').mono ?_)
    rintro e w1 ⟨rfl, b1⟩
    go_wp2_with (go_at_call 6; refine (quoteR_walk s _ hs').mono ?_)
    rintro e w2 ⟨rfl, b2⟩
    have hg2 : Glob w2 := (hg.below b1).below b2
    go_wp2_with (go_at_call 7; refine (aw _ hg2).mono ?_)
    rintro e w3 ⟨rfl, b3⟩
    have b : Below w.heap.size w w3 := (b1.trans (b2.mono b1.size)).trans (b3.mono (Nat.le_trans b1.size b2.size))
    go_wp2
    go_ret
    exact ⟨rfl, b⟩
set_option maxHeartbeats 4000000 in
set_option maxRecDepth 1000000 in
theorem unquotes_walk (aw : Awake) (s t : ByteArray) (hs : s.size ≤ maxLen) (ht : t.size ≤ maxLen) (w : World) (hg : Glob w) :
    Calls Tryz.prog 4 #[.string s, .string t] w fun e w' => e = .returned (.bool true) ∧ Below w.heap.size w w' := by
  unfold maxLen at hs ht
  by_cases h : 3000 < s.size
  · have hd : decide ((s.size : Int) > 3000) = true := by simp; omega
    go_enter Tryz.func4, Tryz.ntmps4
    go_wp2_with (go_at_call 7; refine (aw _ hg).mono ?_; rintro e w' ⟨rfl, hb⟩)
    go_ret
    exact ⟨rfl, hb⟩
  · have hd : decide ((s.size : Int) > 3000) = false := by simp; omega
    by_cases h2 : 3000 < t.size
    · have hd2 : decide ((t.size : Int) > 3000) = true := by simp; omega
      go_enter Tryz.func4, Tryz.ntmps4
      go_wp2_with (go_at_call 7; refine (aw _ hg).mono ?_; rintro e w' ⟨rfl, hb⟩)
      go_ret
      exact ⟨rfl, hb⟩
    · have hd2 : decide ((t.size : Int) > 3000) = false := by simp; omega
      have hs' : s.size ≤ 5000 := by omega
      have ht' : t.size ≤ 5000 := by omega
      have q1 : ∀ w, Calls Tryz.prog 5 #[.string s] w fun e w' => e = .returned (.string (quoteS s)) ∧ Below w.heap.size w w' := fun w => quote_walk s w hs'
      have q2 : ∀ w, Calls Tryz.prog 5 #[.string t] w fun e w' => e = .returned (.string (quoteS t)) ∧ Below w.heap.size w w' := fun w => quote_walk t w ht'
      have hz := quoteS_size s
      have hz2 := quoteS_size t
      go_enter Tryz.func4, Tryz.ntmps4
      go_wp2_with (go_at_call 5; refine (q1 _).mono ?_)
      rintro e w1 ⟨rfl, b1⟩
      go_wp2
      go_loop [6] (fun i => ∃ k : Nat, k ≤ (quoteS s).size ∧ i = .int .i64 k) (fun i => (quoteS s).size - (intOf i).toNat)
      case atStart => exact ⟨0, Nat.zero_le _, rfl⟩
      case round =>
        obtain ⟨k, hk, rfl⟩ := hrel
        by_cases hlt : k < (quoteS s).size
        · obtain ⟨f10, f13, f9⟩ := quoteS_fine s k hlt
          have ne : ∀ x : UInt8, (quoteS s)[k] ≠ x → (((quoteS s)[k].toNat : Int) == (x.toNat : Int)) = false := fun x hx => by
            rw [beq_eq_false_iff_ne]
            intro e
            exact hx (UInt8.toNat_inj.1 (by omega))
          have e10 : (((quoteS s)[k].toNat : Int) == 10) = false := ne 10 f10
          have e13 : (((quoteS s)[k].toNat : Int) == 13) = false := ne 13 f13
          have e9 : (((quoteS s)[k].toNat : Int) == 9) = false := ne 9 f9
          clear ne f10 f13 f9
          go_wp2
          go_round
          case rel => exact ⟨k + 1, hlt, by go_num⟩
          case measure => simp [intOf]; omega
        · have hge : decide (((quoteS s).size : Int) ≥ (s.size : Int) + 2) = true := by simp; omega
          by_cases hst : s = t
          · subst hst
            go_wp2_with (go_at_call 5; refine (q1 _).mono ?_)
            rintro e w2 rfl b2
            have hg2 : Glob w2 := (hg.below b1).below b2
            go_wp2_with (go_at_call 7; refine (aw _ hg2).mono ?_)
            rintro e w3 ⟨rfl, b3⟩
            have b : Below w.heap.size w w3 := (b1.trans (b2.mono b1.size)).trans (b3.mono (Nat.le_trans b1.size b2.size))
            go_wp2
            go_ret
            exact ⟨rfl, b⟩
          · have hq : ¬ quoteS s = quoteS t := fun e => hst (quoteS_inj e)
            have hq1 := ne_list hq
            have hq2 := ne_list hst
            go_wp2_with (go_at_call 5; refine (q2 _).mono ?_)
            rintro e w2 rfl b2
            have hg2 : Glob w2 := (hg.below b1).below b2
            go_wp2_with (go_at_call 7; refine (aw _ hg2).mono ?_)
            rintro e w3 ⟨rfl, b3⟩
            have b : Below w.heap.size w w3 := (b1.trans (b2.mono b1.size)).trans (b3.mono (Nat.le_trans b1.size b2.size))
            go_wp2
            go_ret
            exact ⟨rfl, b⟩
end Go.Proofs.YtdjhicbhegaenaaGreatDoor.Quo
