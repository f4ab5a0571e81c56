/- strings.Builder's methods in this program: what WriteByte and WriteString do (proofs turned from the kit's shelf; the program's copyCheck has no panic's text). Quote of the program, at any text. Quote of the reference, at any text. -/
import Derived.Shelf.Strings.Builder1
import Derived.Test.YtdjhicbhegaenaaGreatDoorLaysB
import Derived.Test.YtdjhicbhegaenaaGreatDoorChecked
import Derived.WalkKit
import Derived.BigCall
import Derived.Laws.IdiomStrings
namespace Go.Proofs.YtdjhicbhegaenaaGreatDoor.Quo
open Go Go.Proofs Go.RowKit

theorem size29 : (Tryz.prog.info? 29).map (·.size) = some 2 := by kernel_rfl
theorem lies29 : liesAt Tryz.prog Tryz.prog.depth 29 (2 / Tryz.prog.cellsOf 29) 0 29 1 = true := by kernel_rfl
theorem infoByte : (Tryz.prog.info? 5).map (fun i => (i.zero, i.size, i.bytes)) = some (some (.int .u8 0), 1, 1) := by kernel_rfl
set_option maxHeartbeats 1000000 in
set_option maxRecDepth 100000 in
theorem copyCheck_used (b : Nat) (w : World) (h0 : w.cell? ⟨b, 0, none⟩ = some (.pointer (some ⟨b, 0, none⟩))) :
    Calls Tryz.prog 18 #[.pointer (some ⟨b, 0, none⟩)] w fun e w' => e = .returned (.tuple #[]) ∧ w' = w := by
  obtain ⟨j, hj, _⟩ := Option.map_eq_some_iff.1 size29
  go_enter Tryz.func18, Tryz.ntmps18
  go_wp2
  rw [Lib.run_neq_ptr_same w _ Tryz.underlying26 hj]
  go_wp2
  go_end0
  exact ⟨rfl, rfl⟩
set_option maxHeartbeats 1000000 in
set_option maxRecDepth 100000 in
theorem copyCheck_fresh (b : Nat) (w : World) (h0 : w.cell? ⟨b, 0, none⟩ = some (.pointer none)) (hsh : w.shape? b = some (29, 2)) (hfz : w.frozen? ⟨b, 0, none⟩ = false) :
    Calls Tryz.prog 18 #[.pointer (some ⟨b, 0, none⟩)] w fun e w' => e = .returned (.tuple #[]) ∧ w' = w.setCell ⟨b, 0, none⟩ (.pointer (some ⟨b, 0, none⟩)) := by
  obtain ⟨j, hj, hjs⟩ := Option.map_eq_some_iff.1 size29
  go_enter Tryz.func18, Tryz.ntmps18
  go_wp2
  rw [Lib.run_to_unsafe w ⟨b, 0, none⟩ Tryz.underlying26 Tryz.underlying85 hj (by rw [hjs]; decide) hsh (Nat.zero_lt_succ 1)]
  simp only [Result.andThen]
  rw [Oper.upon_value]
  go_wp2
  rw [run_callFunc_extern Tryz.func38 (by kernel_rfl) (by kernel_rfl) (by kernel_rfl) (e := Extern.AbiNoEscape.same) (by kernel_rfl)]
  rw [Lib.run_noEscape]
  simp only [Result.andThen]
  rw [Oper.upon_value]
  go_wp2
  rw [Lib.run_from_unsafe w ⟨b, 0, none⟩ Tryz.underlying85 Tryz.underlying26 hj hsh lies29]
  simp only [Result.andThen]
  rw [Oper.upon_value]
  go_wp2
  go_end0
  exact ⟨rfl, rfl⟩
theorem copyCheck_any (B b : Nat) (bs : List Value) (w : World) (h : Lib.IsBuilder 29 5 B b bs w) :
    Calls Tryz.prog 18 #[.pointer (some ⟨b, 0, none⟩)] w fun e w' => e = .returned (.tuple #[]) ∧ (Lib.BuilderAt 29 5 B b (.pointer (some ⟨b, 0, none⟩)) bs w' ∧ Below B w w') := by
  rcases h with h | h
  · refine (copyCheck_fresh b w h.cell0 h.shape h.frozen0).mono ?_
    rintro e w' ⟨rfl, rfl⟩
    exact ⟨rfl, h.used _, (Below.refl B w).setCell (p := ⟨b, 0, none⟩) h.1 _⟩
  · refine (copyCheck_used b w h.cell0).mono ?_
    rintro e w' ⟨rfl, rfl⟩
    exact ⟨rfl, h, Below.refl B _⟩
set_option maxHeartbeats 2000000 in
set_option maxRecDepth 100000 in
theorem writeByte (B b : Nat) (bs : List Value) (c : Int) (w : World) (h : Lib.IsBuilder 29 5 B b bs w) (hlen : bs.length + 1 ≤ 140737488355328) (hBw : B ≤ w.heap.size) :
    Calls Tryz.prog 8 #[.pointer (some ⟨b, 0, none⟩), .int .u8 c] w fun e w' => e = .returned .nilIface ∧ (Lib.BuilderAt 29 5 B b (.pointer (some ⟨b, 0, none⟩)) (bs ++ [.int .u8 c]) w' ∧ Below B w w') := by
  obtain ⟨i0, hi, hz0, hz1, hz2⟩ := info_parts infoByte
  go_enter Tryz.func8, Tryz.ntmps8
  go_wp2_with (go_at_call 18; refine (copyCheck_any B b bs _ h).mono ?_)
  rintro e w1 ⟨rfl, h1, hb1⟩
  obtain ⟨hB, v, hbk, hown, hne⟩ := h1
  have c0 : w1.cell? ⟨b, 0, none⟩ = some (.pointer (some ⟨b, 0, none⟩)) := by rw [Lib.cell_of_heap hbk]; rfl
  have c1 : w1.cell? ⟨b, 1, none⟩ = some v := by rw [Lib.cell_of_heap hbk]; rfl
  go_wp2_with (at_builtin; refine wpList_append_own _ rfl _ _ 27 rfl B 5 i0 (.int .u8 0) 1 1 Tryz.underlying27 hi hz0 hz1 hz2 rfl (by decide) _ _ _ rfl (hown.alloc _) ⟨w1.heap.size, 0, none⟩ 1 1 [.int .u8 c] rfl rfl ?c1 ?c2 ?c3 ?c4 ?c5 ?_)
  case c1 =>
    intro j u hj
    match j, hj with
    | 0, hj => simp at hj; subst hj; simp [Addr.add]
  case c2 => intro u hu; simp at hu; subst hu; rfl
  case c3 => unfold maxLen; omega
  case c4 => omega
  case c5 => have := hb1.size; simp; omega
  intro v' w2 hown' hgrow _
  have hlt : b < w1.heap.size := by
    rcases Nat.lt_or_ge b w1.heap.size with h' | h'
    · exact h'
    · simp [Array.getElem?_eq_none h'] at hbk
  have hb2 : w2.heap[b]? = some (.cells #[.pointer (some ⟨b, 0, none⟩), v] 29 (0, 0)) := by
    rw [hgrow.block b (by simp; omega) (fun e => hne e.symm), Lib.alloc_old w1 _ b hlt]
    exact hbk
  have d0 : w2.cell? ⟨b, 0, none⟩ = some (.pointer (some ⟨b, 0, none⟩)) := by rw [Lib.cell_of_heap hb2]; rfl
  have d1 : w2.cell? ⟨b, 1, none⟩ = some v := by rw [Lib.cell_of_heap hb2]; rfl
  have f1 : w2.frozen? ⟨b, 1, none⟩ = false := Lib.frozen_of_heap hb2 1
  obtain ⟨g, cap, rfl⟩ : ∃ g cap, v' = .slice (some ⟨g, 0, none⟩) (bs.length + 1) cap := by
    rcases hown'.2 with ⟨_, h0⟩ | ⟨g, cap, cur, hv, _⟩
    · omega
    · exact ⟨g, cap, hv⟩
  go_wp2
  go_ret
  refine ⟨rfl, ?_, ?_⟩
  · exact Lib.BuilderAt.put (T := 29) (e := 5) hB hb2 (bs' := bs ++ [.int .u8 c]) (by simpa using hown') (by decide)
  · exact ((hb1.alloc (by have := hb1.size; omega) _).grown hgrow (by have := hb1.size; simp; omega) (fun k hk => (hown.lt k hk).1)).setCell (p := ⟨b, 1, none⟩) hB _
set_option maxHeartbeats 2000000 in
set_option maxRecDepth 100000 in
theorem writeString (B b : Nat) (bs : List Value) (s : ByteArray) (w : World) (h : Lib.IsBuilder 29 5 B b bs w) (hlen : bs.length + s.size ≤ 140737488355328) (hBw : B ≤ w.heap.size) :
    Calls Tryz.prog 9 #[.pointer (some ⟨b, 0, none⟩), .string s] w fun e w' => e = .returned (.tuple #[.int .i64 s.size, .nilIface]) ∧ (Lib.BuilderAt 29 5 B b (.pointer (some ⟨b, 0, none⟩)) (bs ++ Lib.strCells s) w' ∧ Below B w w') := by
  obtain ⟨i0, hi, hz0, hz1, hz2⟩ := info_parts infoByte
  go_enter Tryz.func9, Tryz.ntmps9
  go_wp2_with (go_at_call 18; refine (copyCheck_any B b bs _ h).mono ?_)
  rintro e w1 ⟨rfl, h1, hb1⟩
  obtain ⟨hB, v, hbk, hown, hne⟩ := h1
  have c0 : w1.cell? ⟨b, 0, none⟩ = some (.pointer (some ⟨b, 0, none⟩)) := by rw [Lib.cell_of_heap hbk]; rfl
  have c1 : w1.cell? ⟨b, 1, none⟩ = some v := by rw [Lib.cell_of_heap hbk]; rfl
  go_wp2_with (at_builtin; refine Lib.wpList_append_own_string _ rfl _ _ 27 9 rfl B 5 i0 Tryz.underlying27 Tryz.underlying9 hi hz0 hz1 hz2 _ _ _ rfl hown s rfl ?c3 ?c4 ?c5 ?_)
  case c3 => unfold maxLen; omega
  case c4 => omega
  case c5 => have := hb1.size; omega
  intro v' w2 hown' hgrow _
  have hlt : b < w1.heap.size := by
    rcases Nat.lt_or_ge b w1.heap.size with h' | h'
    · exact h'
    · simp [Array.getElem?_eq_none h'] at hbk
  have hb2 : w2.heap[b]? = some (.cells #[.pointer (some ⟨b, 0, none⟩), v] 29 (0, 0)) := by
    rw [hgrow.block b hlt (fun e => hne e.symm)]
    exact hbk
  have d0 : w2.cell? ⟨b, 0, none⟩ = some (.pointer (some ⟨b, 0, none⟩)) := by rw [Lib.cell_of_heap hb2]; rfl
  have d1 : w2.cell? ⟨b, 1, none⟩ = some v := by rw [Lib.cell_of_heap hb2]; rfl
  have f1 : w2.frozen? ⟨b, 1, none⟩ = false := Lib.frozen_of_heap hb2 1
  obtain ⟨ao, n', cap, rfl⟩ : ∃ ao n' cap, v' = .slice ao n' cap := by
    rcases hown'.2 with ⟨hv, _⟩ | ⟨g, cap, cur, hv, _⟩
    · exact ⟨_, _, _, hv⟩
    · exact ⟨_, _, _, hv⟩
  go_wp2
  go_ret2
  refine ⟨rfl, ?_, ?_⟩
  · exact Lib.BuilderAt.put (T := 29) (e := 5) hB hb2 (bs' := bs ++ Lib.strCells s) (by simpa [Lib.strCells_length] using hown') (by decide)
  · exact (hb1.grown hgrow (by have := hb1.size; omega) (fun k hk => (hown.lt k hk).1)).setCell (p := ⟨b, 1, none⟩) hB _
end Go.Proofs.YtdjhicbhegaenaaGreatDoor.Quo
namespace Go.Proofs.YtdjhicbhegaenaaGreatDoor.Quo
open Go Go.Proofs Go.RowKit

/-- A letter, quoted. -/
def qc (c : UInt8) : List UInt8 := if c = 34 then [92, 34] else if c = 92 then [92, 92] else if c = 10 then [92, 110] else if c = 13 then [92, 114] else if c = 9 then [92, 116] else [c]
def qs (l : List UInt8) : List UInt8 := 34 :: l.flatMap qc
def quote (l : List UInt8) : List UInt8 := qs l ++ [34]
theorem take_snoc (s : ByteArray) (k : Nat) (h : k < s.size) : s.data.toList.take (k + 1) = s.data.toList.take k ++ [s[k]] := by
  rw [List.take_succ_eq_append_getElem (by simpa using h)]; rfl
theorem qc_len (c : UInt8) : (qc c).length ≤ 2 := by
  unfold qc
  repeat (split; · decide)
  simp
theorem qs_len (l : List UInt8) : (qs l).length ≤ 2 * l.length + 1 := by
  induction l with
  | nil => simp [qs]
  | cons c l ih =>
    have := qc_len c
    simp only [qs, List.flatMap_cons, List.length_cons, List.length_append] at ih ⊢
    omega
def QRel (s : ByteArray) (B : Nat) (w : World) (i : Value) (wr : World) : Prop := ∃ k : Nat, k ≤ s.size ∧ i = .int .i64 k ∧ Lib.IsBuilder 29 5 B B (Lib.byteCells (qs (s.data.toList.take k))) wr ∧ Below B w wr

theorem qs_snoc (s : ByteArray) (k : Nat) (h : k < s.size) : qs (s.data.toList.take (k + 1)) = qs (s.data.toList.take k) ++ qc s[k] := by
  rw [take_snoc s k h]; simp [qs]
theorem QRel.next {s : ByteArray} {B k : Nat} {w wr w1 : World} (h : k < s.size) {l : List Value} (hl : l = Lib.byteCells (qs (s.data.toList.take k)) ++ Lib.byteCells (qc s[k])) (h1 : Lib.BuilderAt 29 5 B B (.pointer (some ⟨B, 0, none⟩)) l w1) (hb : Below B w wr) (b1 : Below B wr w1) : QRel s B w (.int .i64 ((k : Int) + 1)) w1 := by
  refine ⟨k + 1, h, by go_num, Or.inr ?_, hb.trans b1⟩
  rw [qs_snoc s k h, Lib.byteCells_append, ← hl]
  exact h1
set_option maxHeartbeats 4000000 in
set_option maxRecDepth 1000000 in
theorem quote_walk (s : ByteArray) (w : World) (hs : s.size ≤ 5000) :
    Calls Tryz.prog 5 #[.string s] w fun e w' => e = .returned (.string ⟨(quote s.data.toList).toArray⟩) ∧ Below w.heap.size w w' := by
  go_enter Tryz.func5, Tryz.ntmps5
  go_wp2_with (go_at_call 8; refine (writeByte w.heap.size w.heap.size [] 34 _ (Lib.fresh_isBuilder 29 5 w) (by decide) (by simp)).mono ?_)
  rintro e W0 ⟨rfl, hI0, hb0⟩
  have hI0 : Lib.IsBuilder 29 5 w.heap.size w.heap.size (Lib.byteCells (qs (s.data.toList.take 0))) W0 := Or.inr (by simpa [qs, Lib.byteCells] using hI0)
  have hb0 : Below w.heap.size w W0 := ((Below.refl _ w).alloc (Nat.le_refl _) _).trans hb0
  go_wp2
  go_loopw [4] (fun i wr => QRel s w.heap.size w i wr) (fun i _ => s.size - (intOf i).toNat)
  case atStart => exact ⟨0, Nat.zero_le _, rfl, hI0, hb0⟩
  case round =>
    obtain ⟨k, hk, rfl, hI, hb⟩ := hrel
    have hl := qs_len (s.data.toList.take k)
    have hl2 : (s.data.toList.take k).length ≤ k := List.length_take_le _ _
    have hz := hb.size
    by_cases hlt : k < s.size
    · by_cases h34 : s[k] = 34
      · have e1 : ((s[k].toNat : Int) == 34) = true := by rw [h34]; rfl
        have e2 : ((s[k].toNat : Int) == 92) = false := by rw [h34]; rfl
        go_wp2_with (go_at_call 8; refine (writeByte w.heap.size w.heap.size _ 92 _ hI (by rw [Lib.byteCells_length]; omega) hz).mono ?_)
        rintro e W1 ⟨rfl, h1, b1⟩
        have hz1 := (hb.trans b1).size
        go_wp2_with (go_at_call 8; refine (writeByte w.heap.size w.heap.size _ _ _ (Or.inr h1) (by simp only [List.length_append, Lib.byteCells_length, List.length_cons, List.length_nil]; omega) hz1).mono ?_)
        rintro e W2 ⟨rfl, h2, b2⟩
        go_wp2
        go_roundw
        case rel => exact QRel.next hlt (by rw [h34]; simp [Lib.byteCells, qc]; try rfl) h2 hb (b1.trans b2)
        case measure => simp [intOf]; omega
      by_cases h92 : s[k] = 92
      · have e1 : ((s[k].toNat : Int) == 34) = false := by rw [h92]; rfl
        have e2 : ((s[k].toNat : Int) == 92) = true := by rw [h92]; rfl
        go_wp2_with (go_at_call 8; refine (writeByte w.heap.size w.heap.size _ 92 _ hI (by rw [Lib.byteCells_length]; omega) hz).mono ?_)
        rintro e W1 ⟨rfl, h1, b1⟩
        have hz1 := (hb.trans b1).size
        go_wp2_with (go_at_call 8; refine (writeByte w.heap.size w.heap.size _ _ _ (Or.inr h1) (by simp only [List.length_append, Lib.byteCells_length, List.length_cons, List.length_nil]; omega) hz1).mono ?_)
        rintro e W2 ⟨rfl, h2, b2⟩
        go_wp2
        go_roundw
        case rel => exact QRel.next hlt (by rw [h92]; simp [Lib.byteCells, qc]; try rfl) h2 hb (b1.trans b2)
        case measure => simp [intOf]; omega
      by_cases h10 : s[k] = 10
      · have z := h10
        have e34 : ((s[k].toNat : Int) == 34) = false := by rw [h10]; rfl
        have e92 : ((s[k].toNat : Int) == 92) = false := by rw [h10]; rfl
        have e10 : ((s[k].toNat : Int) == 10) = true := by rw [h10]; rfl
        have e13 : ((s[k].toNat : Int) == 13) = false := by rw [h10]; rfl
        have e9 : ((s[k].toNat : Int) == 9) = false := by rw [h10]; rfl
        go_wp2_with (go_at_call 9; refine (writeString w.heap.size w.heap.size _ ⟨#[92, 110]⟩ _ hI (by rw [Lib.byteCells_length]; show _ + 2 ≤ _; omega) hz).mono ?_)
        rintro e W1 ⟨rfl, h1, b1⟩
        go_wp2
        go_roundw
        case rel => exact QRel.next hlt (by rw [h10]; simp [Lib.byteCells, Lib.strCells, qc]; try rfl) h1 hb b1
        case measure => simp [intOf]; omega
      by_cases h13 : s[k] = 13
      · have z := h13
        have e34 : ((s[k].toNat : Int) == 34) = false := by rw [h13]; rfl
        have e92 : ((s[k].toNat : Int) == 92) = false := by rw [h13]; rfl
        have e10 : ((s[k].toNat : Int) == 10) = false := by rw [h13]; rfl
        have e13 : ((s[k].toNat : Int) == 13) = true := by rw [h13]; rfl
        have e9 : ((s[k].toNat : Int) == 9) = false := by rw [h13]; rfl
        go_wp2_with (go_at_call 9; refine (writeString w.heap.size w.heap.size _ ⟨#[92, 114]⟩ _ hI (by rw [Lib.byteCells_length]; show _ + 2 ≤ _; omega) hz).mono ?_)
        rintro e W1 ⟨rfl, h1, b1⟩
        go_wp2
        go_roundw
        case rel => exact QRel.next hlt (by rw [h13]; simp [Lib.byteCells, Lib.strCells, qc]; try rfl) h1 hb b1
        case measure => simp [intOf]; omega
      by_cases h9 : s[k] = 9
      · have z := h9
        have e34 : ((s[k].toNat : Int) == 34) = false := by rw [h9]; rfl
        have e92 : ((s[k].toNat : Int) == 92) = false := by rw [h9]; rfl
        have e10 : ((s[k].toNat : Int) == 10) = false := by rw [h9]; rfl
        have e13 : ((s[k].toNat : Int) == 13) = false := by rw [h9]; rfl
        have e9 : ((s[k].toNat : Int) == 9) = true := by rw [h9]; rfl
        go_wp2_with (go_at_call 9; refine (writeString w.heap.size w.heap.size _ ⟨#[92, 116]⟩ _ hI (by rw [Lib.byteCells_length]; show _ + 2 ≤ _; omega) hz).mono ?_)
        rintro e W1 ⟨rfl, h1, b1⟩
        go_wp2
        go_roundw
        case rel => exact QRel.next hlt (by rw [h9]; simp [Lib.byteCells, Lib.strCells, qc]; try rfl) h1 hb b1
        case measure => simp [intOf]; omega
      have ne : ∀ x : UInt8, s[k] ≠ x → ((s[k].toNat : Int) == (x.toNat : Int)) = false := fun x hx => by
        rw [beq_eq_false_iff_ne]
        intro e
        exact hx (UInt8.toNat_inj.1 (by omega))
      have e34 : ((s[k].toNat : Int) == 34) = false := ne 34 h34
      have e92 : ((s[k].toNat : Int) == 92) = false := ne 92 h92
      have e10 : ((s[k].toNat : Int) == 10) = false := ne 10 h10
      have e13 : ((s[k].toNat : Int) == 13) = false := ne 13 h13
      have e9 : ((s[k].toNat : Int) == 9) = false := ne 9 h9
      clear ne
      go_wp2_with (go_at_call 8; refine (writeByte w.heap.size w.heap.size _ _ _ hI (by rw [Lib.byteCells_length]; omega) hz).mono ?_)
      rintro e W1 ⟨rfl, h1, b1⟩
      go_wp2
      go_roundw
      case rel => exact QRel.next hlt (by simp [Lib.byteCells, qc, h34, h92, h10, h13, h9]) h1 hb b1
      case measure => simp [intOf]; omega
    · have hks : k = s.size := by omega
      go_wp2_with (go_at_call 8; refine (writeByte w.heap.size w.heap.size _ 34 _ hI (by rw [Lib.byteCells_length]; omega) hz).mono ?_)
      rintro e W1 ⟨rfl, h1, b1⟩
      have h2 : Lib.IsBuilder 29 5 w.heap.size w.heap.size (Lib.byteCells (quote s.data.toList)) W1 := by
        refine Or.inr ?_
        rw [List.take_of_length_le (by simp; omega)] at h1
        rw [quote, Lib.byteCells_append]
        exact h1
      have hz1 := (hb.trans b1).size
      go_wp2_with (go_at_call 10; refine (Tryz.Builder_String_any w.heap.size w.heap.size _ _ h2 hz1).mono ?_)
      rintro e W2 ⟨rfl, b2⟩
      go_wp2
      go_ret
      exact ⟨rfl, (hb.trans b1).trans b2⟩
end Go.Proofs.YtdjhicbhegaenaaGreatDoor.Quo
namespace Go.Proofs.YtdjhicbhegaenaaGreatDoor.Quo
open Go Go.Proofs Go.RowKit

def RRel (s : ByteArray) (B : Nat) (w : World) (v i : Value) (wr : World) : Prop := ∃ k : Nat, k ≤ s.size ∧ i = .int .i64 k ∧ wr.ownsRow B 5 1 v (qs (s.data.toList.take k)).length (Lib.byteCells (qs (s.data.toList.take k))) ∧ Below B w wr
theorem RRel.next {s : ByteArray} {B k m : Nat} {w w2 : World} {v' : Value} (h : k < s.size) {xs : List Value} (hl : xs = Lib.byteCells (qs (s.data.toList.take k)) ++ Lib.byteCells (qc s[k])) (hm : m = (qc s[k]).length) (h1 : w2.ownsRow B 5 1 v' ((qs (s.data.toList.take k)).length + m) xs) (hb : Below B w w2) : RRel s B w v' (.int .i64 ((k : Int) + 1)) w2 := by
  refine ⟨k + 1, h, by go_num, ?_, hb⟩
  rw [qs_snoc s k h, Lib.byteCells_append, ← hl, List.length_append, ← hm]
  exact h1
theorem below_app {w wr w2 : World} {o : Obj} {v : Value} {n : Nat} {xs : List Value} (hb : Below w.heap.size w wr) (hown : wr.ownsRow w.heap.size 5 1 v n xs) (hgrow : (wr.alloc o).grownBy w2 v.ownBlock) : Below w.heap.size w w2 :=
  (hb.alloc hb.size _).grown hgrow (by have := hb.size; simp; omega) (fun k hk => (hown.lt k hk).1)

set_option maxHeartbeats 8000000 in
set_option maxRecDepth 1000000 in
theorem quoteR_walk (s : ByteArray) (w : World) (hs : s.size ≤ 5000) :
    Calls Tryz.prog 6 #[.string s] w fun e w' => e = .returned (.string ⟨(quote s.data.toList).toArray⟩) ∧ Below w.heap.size w w' := by
  obtain ⟨i0, hi, hz0, hz1, hz2⟩ := info_parts infoByte
  go_enter Tryz.func6, Tryz.ntmps6
  go_wp2
  go_loopw [3, 4] (fun v i wr => RRel s w.heap.size w v i wr) (fun _ i _ => s.size - (intOf i).toNat)
  case atStart => exact ⟨0, Nat.zero_le _, rfl, ⟨by simp [qs, Lib.byteCells], Or.inr ⟨w.heap.size, 1, #[.int .u8 34], rfl, Nat.le_refl _, heap_alloc_new w _, by simp [qs], by unfold maxLen; omega, rfl, by simp [qs, Lib.byteCells]; try rfl⟩⟩, (Below.refl _ w).alloc (Nat.le_refl _) _⟩
  case round =>
    obtain ⟨k, hk, rfl, hown, hb⟩ := hrel
    have hl := qs_len (s.data.toList.take k)
    have hl2 : (s.data.toList.take k).length ≤ k := List.length_take_le _ _
    have hz := hb.size
    by_cases hlt : k < s.size
    · by_cases h34 : s[k] = 34
      · have z := h34
        have e34 : ((s[k].toNat : Int) == 34) = true := by rw [h34]; rfl
        have e92 : ((s[k].toNat : Int) == 92) = false := by rw [h34]; rfl
        have e10 : ((s[k].toNat : Int) == 10) = false := by rw [h34]; rfl
        have e13 : ((s[k].toNat : Int) == 13) = false := by rw [h34]; rfl
        have e9 : ((s[k].toNat : Int) == 9) = false := by rw [h34]; rfl
        go_wp2_with (at_builtin; refine wpList_append_own _ rfl _ _ 27 rfl w.heap.size 5 i0 (.int .u8 0) 1 1 Tryz.underlying27 hi hz0 hz1 hz2 rfl (by decide) _ _ _ rfl (hown.alloc _) ⟨wr.heap.size, 0, none⟩ 2 2 [.int .u8 92, .int .u8 34] rfl rfl ?c1 ?c2 ?c3 ?c4 ?c5 ?_)
        case c1 =>
          intro j u hj
          match j, hj with
          | 0, hj => simp at hj; subst hj; simp [Addr.add]
          | 1, hj => simp at hj; subst hj; simp [Addr.add]
        case c2 => intro u hu; simp at hu; rcases hu with rfl | rfl <;> rfl
        case c3 => unfold maxLen; omega
        case c4 => omega
        case c5 => simp; omega
        intro v' w2 hown' hgrow _
        go_wp2
        go_roundw
        case rel => exact RRel.next hlt (by rw [h34]; simp [Lib.byteCells, qc]; try rfl) (by rw [h34]; rfl) hown' (below_app hb hown hgrow)
        case measure => simp [intOf]; omega
      by_cases h92 : s[k] = 92
      · have z := h92
        have e34 : ((s[k].toNat : Int) == 34) = false := by rw [h92]; rfl
        have e92 : ((s[k].toNat : Int) == 92) = true := by rw [h92]; rfl
        have e10 : ((s[k].toNat : Int) == 10) = false := by rw [h92]; rfl
        have e13 : ((s[k].toNat : Int) == 13) = false := by rw [h92]; rfl
        have e9 : ((s[k].toNat : Int) == 9) = false := by rw [h92]; rfl
        go_wp2_with (at_builtin; refine wpList_append_own _ rfl _ _ 27 rfl w.heap.size 5 i0 (.int .u8 0) 1 1 Tryz.underlying27 hi hz0 hz1 hz2 rfl (by decide) _ _ _ rfl (hown.alloc _) ⟨wr.heap.size, 0, none⟩ 2 2 [.int .u8 92, .int .u8 92] rfl rfl ?c1 ?c2 ?c3 ?c4 ?c5 ?_)
        case c1 =>
          intro j u hj
          match j, hj with
          | 0, hj => simp at hj; subst hj; simp [Addr.add]
          | 1, hj => simp at hj; subst hj; simp [Addr.add]
        case c2 => intro u hu; simp at hu; rcases hu with rfl | rfl <;> rfl
        case c3 => unfold maxLen; omega
        case c4 => omega
        case c5 => simp; omega
        intro v' w2 hown' hgrow _
        go_wp2
        go_roundw
        case rel => exact RRel.next hlt (by rw [h92]; simp [Lib.byteCells, qc]; try rfl) (by rw [h92]; rfl) hown' (below_app hb hown hgrow)
        case measure => simp [intOf]; omega
      by_cases h10 : s[k] = 10
      · have z := h10
        have e34 : ((s[k].toNat : Int) == 34) = false := by rw [h10]; rfl
        have e92 : ((s[k].toNat : Int) == 92) = false := by rw [h10]; rfl
        have e10 : ((s[k].toNat : Int) == 10) = true := by rw [h10]; rfl
        have e13 : ((s[k].toNat : Int) == 13) = false := by rw [h10]; rfl
        have e9 : ((s[k].toNat : Int) == 9) = false := by rw [h10]; rfl
        go_wp2_with (at_builtin; refine wpList_append_own _ rfl _ _ 27 rfl w.heap.size 5 i0 (.int .u8 0) 1 1 Tryz.underlying27 hi hz0 hz1 hz2 rfl (by decide) _ _ _ rfl (hown.alloc _) ⟨wr.heap.size, 0, none⟩ 2 2 [.int .u8 92, .int .u8 110] rfl rfl ?c1 ?c2 ?c3 ?c4 ?c5 ?_)
        case c1 =>
          intro j u hj
          match j, hj with
          | 0, hj => simp at hj; subst hj; simp [Addr.add]
          | 1, hj => simp at hj; subst hj; simp [Addr.add]
        case c2 => intro u hu; simp at hu; rcases hu with rfl | rfl <;> rfl
        case c3 => unfold maxLen; omega
        case c4 => omega
        case c5 => simp; omega
        intro v' w2 hown' hgrow _
        go_wp2
        go_roundw
        case rel => exact RRel.next hlt (by rw [h10]; simp [Lib.byteCells, qc]; try rfl) (by rw [h10]; rfl) hown' (below_app hb hown hgrow)
        case measure => simp [intOf]; omega
      by_cases h13 : s[k] = 13
      · have z := h13
        have e34 : ((s[k].toNat : Int) == 34) = false := by rw [h13]; rfl
        have e92 : ((s[k].toNat : Int) == 92) = false := by rw [h13]; rfl
        have e10 : ((s[k].toNat : Int) == 10) = false := by rw [h13]; rfl
        have e13 : ((s[k].toNat : Int) == 13) = true := by rw [h13]; rfl
        have e9 : ((s[k].toNat : Int) == 9) = false := by rw [h13]; rfl
        go_wp2_with (at_builtin; refine wpList_append_own _ rfl _ _ 27 rfl w.heap.size 5 i0 (.int .u8 0) 1 1 Tryz.underlying27 hi hz0 hz1 hz2 rfl (by decide) _ _ _ rfl (hown.alloc _) ⟨wr.heap.size, 0, none⟩ 2 2 [.int .u8 92, .int .u8 114] rfl rfl ?c1 ?c2 ?c3 ?c4 ?c5 ?_)
        case c1 =>
          intro j u hj
          match j, hj with
          | 0, hj => simp at hj; subst hj; simp [Addr.add]
          | 1, hj => simp at hj; subst hj; simp [Addr.add]
        case c2 => intro u hu; simp at hu; rcases hu with rfl | rfl <;> rfl
        case c3 => unfold maxLen; omega
        case c4 => omega
        case c5 => simp; omega
        intro v' w2 hown' hgrow _
        go_wp2
        go_roundw
        case rel => exact RRel.next hlt (by rw [h13]; simp [Lib.byteCells, qc]; try rfl) (by rw [h13]; rfl) hown' (below_app hb hown hgrow)
        case measure => simp [intOf]; omega
      by_cases h9 : s[k] = 9
      · have z := h9
        have e34 : ((s[k].toNat : Int) == 34) = false := by rw [h9]; rfl
        have e92 : ((s[k].toNat : Int) == 92) = false := by rw [h9]; rfl
        have e10 : ((s[k].toNat : Int) == 10) = false := by rw [h9]; rfl
        have e13 : ((s[k].toNat : Int) == 13) = false := by rw [h9]; rfl
        have e9 : ((s[k].toNat : Int) == 9) = true := by rw [h9]; rfl
        go_wp2_with (at_builtin; refine wpList_append_own _ rfl _ _ 27 rfl w.heap.size 5 i0 (.int .u8 0) 1 1 Tryz.underlying27 hi hz0 hz1 hz2 rfl (by decide) _ _ _ rfl (hown.alloc _) ⟨wr.heap.size, 0, none⟩ 2 2 [.int .u8 92, .int .u8 116] rfl rfl ?c1 ?c2 ?c3 ?c4 ?c5 ?_)
        case c1 =>
          intro j u hj
          match j, hj with
          | 0, hj => simp at hj; subst hj; simp [Addr.add]
          | 1, hj => simp at hj; subst hj; simp [Addr.add]
        case c2 => intro u hu; simp at hu; rcases hu with rfl | rfl <;> rfl
        case c3 => unfold maxLen; omega
        case c4 => omega
        case c5 => simp; omega
        intro v' w2 hown' hgrow _
        go_wp2
        go_roundw
        case rel => exact RRel.next hlt (by rw [h9]; simp [Lib.byteCells, qc]; try rfl) (by rw [h9]; rfl) hown' (below_app hb hown hgrow)
        case measure => simp [intOf]; omega
      have ne : ∀ x : UInt8, s[k] ≠ x → ((s[k].toNat : Int) == (x.toNat : Int)) = false := fun x hx => by
        rw [beq_eq_false_iff_ne]
        intro e
        exact hx (UInt8.toNat_inj.1 (by omega))
      have e34 : ((s[k].toNat : Int) == 34) = false := ne 34 h34
      have e92 : ((s[k].toNat : Int) == 92) = false := ne 92 h92
      have e10 : ((s[k].toNat : Int) == 10) = false := ne 10 h10
      have e13 : ((s[k].toNat : Int) == 13) = false := ne 13 h13
      have e9 : ((s[k].toNat : Int) == 9) = false := ne 9 h9
      clear ne
      go_wp2_with (at_builtin; refine wpList_append_own _ rfl _ _ 27 rfl w.heap.size 5 i0 (.int .u8 0) 1 1 Tryz.underlying27 hi hz0 hz1 hz2 rfl (by decide) _ _ _ rfl (hown.alloc _) ⟨wr.heap.size, 0, none⟩ 1 1 [.int .u8 s[k].toNat] rfl rfl ?c1 ?c2 ?c3 ?c4 ?c5 ?_)
      case c1 =>
        intro j u hj
        match j, hj with
          | 0, hj => simp at hj; subst hj; simp [Addr.add]
      case c2 => intro u hu; simp at hu; subst hu; rfl
      case c3 => unfold maxLen; omega
      case c4 => omega
      case c5 => simp; omega
      intro v' w2 hown' hgrow _
      go_wp2
      go_roundw
      case rel => exact RRel.next hlt (by simp [Lib.byteCells, qc, h34, h92, h10, h13, h9]) (by simp [qc, h34, h92, h10, h13, h9]) hown' (below_app hb hown hgrow)
      case measure => simp [intOf]; omega
    · have hks : k = s.size := by omega
      rw [List.take_of_length_le (by simp; omega)] at hown hl
      go_wp2_with (at_builtin; refine wpList_append_own _ rfl _ _ 27 rfl w.heap.size 5 i0 (.int .u8 0) 1 1 Tryz.underlying27 hi hz0 hz1 hz2 rfl (by decide) _ _ _ rfl (hown.alloc _) ⟨wr.heap.size, 0, none⟩ 1 1 [.int .u8 34] rfl rfl ?c1 ?c2 ?c3 ?c4 ?c5 ?_)
      case c1 =>
        intro j u hj
        match j, hj with
        | 0, hj => simp at hj; subst hj; simp [Addr.add]
      case c2 => intro u hu; simp at hu; subst hu; rfl
      case c3 => unfold maxLen; simp at hl; omega
      case c4 => simp at hl; omega
      case c5 => simp; omega
      intro v' w2 hown' hgrow _
      have hB := below_app hb hown hgrow
      have e1 : (qs s.data.toList).length + 1 = (quote s.data.toList).length := by simp [quote]
      have e2 : Lib.byteCells (qs s.data.toList) ++ [.int .u8 34] = Lib.byteCells (quote s.data.toList) := by rw [quote, Lib.byteCells_append]; rfl
      rw [e1, e2] at hown'
      obtain ⟨g, cap, rfl⟩ : ∃ g cap, v' = .slice (some ⟨g, 0, none⟩) (quote s.data.toList).length cap := by
        rcases hown'.2 with ⟨_, h0⟩ | ⟨g, cap, cur, hv, _⟩
        · simp [quote] at h0
        · exact ⟨g, cap, hv⟩
      have hconv : (convert 27 9 (.slice (some ⟨g, 0, none⟩) (quote s.data.toList).length cap)).run Tryz.prog w2 = .ok (.string ⟨(quote s.data.toList).toArray⟩) w2 := by
        refine run_convert_bytes_back w2 27 9 5 ⟨g, 0, none⟩ cap (quote s.data.toList) Tryz.underlying27 Tryz.underlying5 Tryz.underlying9 fun j hj => ?_
        have := hown'.cells (g := g) rfl j (.int .u8 ((quote s.data.toList)[j].toNat : Int)) (by simp [Lib.byteCells, List.getElem?_eq_getElem hj])
        simpa [Addr.add] using this
      clear hown' hown hl e1 e2
      go_wp2
      go_ret
      exact ⟨rfl, hB⟩
end Go.Proofs.YtdjhicbhegaenaaGreatDoor.Quo
