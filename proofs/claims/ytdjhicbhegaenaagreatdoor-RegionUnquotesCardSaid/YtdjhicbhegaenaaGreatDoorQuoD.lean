/- The package-level variables that the card lists: what they hold. -/
import Derived.Test.YtdjhicbhegaenaaGreatDoorRunA
import Derived.Test.YtdjhicbhegaenaaGreatDoorRows
import Derived.ProofKit
import Derived.LaidMore
import Derived.OpenShut
import Derived.Stop.Joined
import Derived.ChangeSame
import Derived.FnData
namespace Go.Proofs.YtdjhicbhegaenaaGreatDoor.Quo
open Go Go.Proofs Go.RowKit Go.ChangeShapes Go.WideShapes

theorem gI : Tryz.prog.globalNamed "semvcs/typing.integer" = some 4 := by kernel_rfl
theorem gT : Tryz.prog.globalNamed "semvcs/typing.text" = some 5 := by kernel_rfl
theorem gB : Tryz.prog.globalNamed "semvcs/typing.boolean" = some 6 := by kernel_rfl
theorem tI : (Tryz.prog.globals[4]?).map (·.type) = some 246 := by kernel_rfl
theorem tT : (Tryz.prog.globals[5]?).map (·.type) = some 246 := by kernel_rfl
theorem tB : (Tryz.prog.globals[6]?).map (·.type) = some 246 := by kernel_rfl
theorem c3 : Tryz.prog.cellsOf 3 = 1 := by kernel_rfl
theorem c246 : Tryz.prog.cellsOf 246 = 2 := by kernel_rfl

/-- What a variable of two numbers holds. -/
def Two (w : World) (g : Nat) (n : Int) : Prop := w.cell? ⟨g, 0, none⟩ = some (.int .i64 n) ∧ w.cell? ⟨g, 1, none⟩ = some (.int .i64 0)
def Glob (w : World) : Prop := Two w 4 5 ∧ Two w 5 6 ∧ Two w 6 7

theorem two_of {W : World} {name : String} {g : Nat} {n : Int} (hg : Tryz.prog.globalNamed name = some g) (ht : (Tryz.prog.globals[g]?).map (·.type) = some 246) {g' t : Nat} {cs : Array Value} {fuel : Nat} {p : List MemPlace}
    (hg' : Tryz.prog.globalNamed name = some g') (ht' : (Tryz.prog.globals[g']?).map (·.type) = some t) (hv : W.var? Tryz.prog name = some cs) (hd : DataW.trod (fun _ => ()) Tryz.prog W 0 (fun _ => true) false fuel t cs.toList = some (.agg [.lit (.int .i64 n), .lit (.int .i64 0)], p)) : Two W g n := by
  obtain rfl := Option.some.inj (hg.symm.trans hg')
  obtain rfl := Option.some.inj (ht.symm.trans ht')
  obtain ⟨y0, y1, m, hx, hl, h0, h1⟩ := trod_struct2 Tryz.underlying246 hd
  rw [c246] at hl
  simp only [c3] at h0 h1
  match hcs : cs.toList, hl with
  | [a, b], _ =>
    rw [hcs] at h0 h1
    obtain ⟨k0, e0, r0, _⟩ := DataW.trod_int Tryz.underlying3 h0
    obtain ⟨k1, e1, r1, _⟩ := DataW.trod_int Tryz.underlying3 h1
    simp at e0 e1
    subst e0; subst e1
    rw [r0, r1] at hx
    simp at hx
    obtain ⟨⟨rfl, rfl⟩, _⟩ := hx
    have hc0 := World.var?_cell hg hv 0
    have hc1 := World.var?_cell hg hv 1
    have ea : ∀ i : Nat, cs[i]? = cs.toList[i]? := fun i => Array.getElem?_toList.symm
    rw [ea, hcs] at hc0 hc1
    exact ⟨hc0, hc1⟩

def laid6 : List (String × DataW Unit) := [("math/bits.deBruijn32tab", Rows.laid_math_bits_deBruijn32tab), ("math/bits.deBruijn64tab", Rows.laid_math_bits_deBruijn64tab), ("internal/strconv.uint64pow10", Rows.laid_internal_strconv_uint64pow10), ("semvcs/typing.integer", Rows.laid_semvcs_typing_integer), ("semvcs/typing.text", Rows.laid_semvcs_typing_text), ("semvcs/typing.boolean", Rows.laid_semvcs_typing_boolean)]
theorem of_laid {W : World} (h : laidMetH Tryz.prog laid6 W) : Glob W := by
  rw [MakeChecks.laidMetH_plain _ _ _ (by kernel_rfl)] at h
  obtain ⟨ps, ⟨_, _, _, _, _, _, _, _, _, _, ⟨_, _, _, _, _, _, _, _, _, _, ⟨_, _, _, _, _, _, _, _, _, _, ⟨g3, t3, cs3, f3, p3, q3, hg3, ht3, hv3, hd3, ⟨g4, t4, cs4, f4, p4, q4, hg4, ht4, hv4, hd4, ⟨g5, t5, cs5, f5, p5, q5, hg5, ht5, hv5, hd5, _⟩, _⟩, _⟩, _⟩, _⟩, _⟩, _, _⟩ := h
  exact ⟨two_of gI tI hg3 ht3 hv3 hd3, two_of gT tT hg4 ht4 hv4 hd4, two_of gB tB hg5 ht5 hv5 hd5⟩

theorem cell_lt {w : World} {g o : Nat} {v : Value} (h : w.cell? ⟨g, o, none⟩ = some v) : g < w.heap.size := by
  rcases Nat.lt_or_ge g w.heap.size with q | q
  · exact q
  · simp [World.cell?, Array.getElem?_eq_none q] at h
theorem Two.below {w w' : World} {g : Nat} {n : Int} (h : Two w g n) (hb : Below w.heap.size w w') : Two w' g n :=
  ⟨(hb.cell (p := ⟨g, 0, none⟩) (cell_lt h.1)).trans h.1, (hb.cell (p := ⟨g, 1, none⟩) (cell_lt h.1)).trans h.2⟩
theorem Glob.below {w w' : World} (h : Glob w) (hb : Below w.heap.size w w') : Glob w' := ⟨h.1.below hb, h.2.1.below hb, h.2.2.below hb⟩
theorem two_load {w : World} {g : Nat} {n : Int} (h : Two w g n) : (Instr.loadAt 246 (.pointer (some ⟨g, 0, none⟩))).run Tryz.prog w = .ok (.agg #[.int .i64 n, .int .i64 0]) w := by
  have hl := run_loadCells_list (P := Tryz.prog) w ⟨g, 0, none⟩ [.int .i64 n, .int .i64 0] (fun j v hj => by
    match j, hj with
    | 0, hj => simp at hj; subst hj; simpa [Addr.add] using h.1
    | 1, hj => simp at hj; subst hj; simpa [Addr.add] using h.2)
  have ha : (isAgg 246).run Tryz.prog w = .ok true w := Clo.run_isAgg (by rw [Tryz.underlying246]; rfl) w
  have hl : (loadCells ⟨g, 0, none⟩ 2).run Tryz.prog w = .ok #[.int .i64 n, .int .i64 0] w := hl
  simp [Instr.loadAt, Instr.sureAddr, loadVar, ha, hl]
theorem glOk {w : World} (h : Glob w) : Clo.GlOk Clo.gl Tryz.prog w.heap.size ⟨w, Clo.φN⟩ := by
  intro g t v hg w' hb
  have hb : Below w.heap.size w w' := hb
  have h' := h.below hb
  unfold Clo.gl at hg
  split at hg
  · rename_i ht
    obtain rfl := Nat.eq_of_beq_eq_true ht
    split at hg <;> first
      | (simp only [Option.some.injEq] at hg; subst hg; exact two_load h'.1)
      | (simp only [Option.some.injEq] at hg; subst hg; exact two_load h'.2.1)
      | (simp only [Option.some.injEq] at hg; subst hg; exact two_load h'.2.2)
      | cases hg
  · cases hg
end Go.Proofs.YtdjhicbhegaenaaGreatDoor.Quo
