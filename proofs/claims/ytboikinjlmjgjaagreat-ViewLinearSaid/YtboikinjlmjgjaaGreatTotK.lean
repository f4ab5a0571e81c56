/- Evaluators that always answer: the first commit (the eight programs are parsed and bound in the kernel), a history. -/
import Derived.Test.YtboikinjlmjgjaaGreatTotJ
namespace Go.Proofs.YtboikinjlmjgjaaGreat.Abs
open Go
def aau : Cel → List Cel → Bool
 | _, [] => true
 | a, b :: r => ahd a.1 a.2.1 b.1 b.2.1 && aau b r
def ah5 : List Cel → Bool
 | [] => true
 | a :: r => aau a r
theorem Lb : ∀ {r : List Cel} {a : Cel}, aau a r = true → Chn a r
 | [], _, _ => trivial
 | b :: r, a, h => by
  simp only [aau, Bool.and_eq_true] at h
  exact ⟨h.1, Lb h.2⟩
theorem VE {l : List Cel} (h : ah5 l = true) : Dz l := by
 cases l with
 | nil => exact List.Pairwise.nil
 | cons a r => exact Jn (Lb h)
def fX (c : Com) : Bool := decide (c.2.1.length ≤ 4) && ah5 (ws c) && (ws c).all (fun x => decide (x.2.2.1.2.2.1.length < 1000)) && decide ((ws c).length ≤ 200)
theorem P0 {c : Com} (h : fX c = true) : First1 c := by
 simp only [fX, Bool.and_eq_true, decide_eq_true_eq, List.all_eq_true] at h
 exact ⟨h.1.1.1, VE h.1.1.2, h.1.2, h.2⟩
theorem acO : (bK 0).elim false fX = true := by kernel_rfl
theorem acN : (bK 1).elim false fX = true := by kernel_rfl
theorem acM : (bK 2).elim false fX = true := by kernel_rfl
theorem acL : (bK 3).elim false fX = true := by kernel_rfl
theorem acK : (bK 4).elim false fX = true := by kernel_rfl
theorem acJ : (bK 5).elim false fX = true := by kernel_rfl
theorem acI : (bK 6).elim false fX = true := by kernel_rfl
theorem acH : (bK 7).elim false fX = true := by kernel_rfl
theorem VV : (aZ 0 8 = some 0 ∧ aZ 1 8 = some 1 ∧ aZ 2 8 = some 2 ∧ aZ 3 8 = some 3) ∧ (aZ 4 8 = some 4 ∧ aZ 5 8 = some 5 ∧ aZ 6 8 = some 6 ∧ aZ 7 8 = some 7) :=
 ⟨⟨by kernel_rfl, by kernel_rfl, by kernel_rfl, by kernel_rfl⟩, by kernel_rfl, by kernel_rfl, by kernel_rfl, by kernel_rfl⟩
theorem fd {x r : Int} (e : aZ x 8 = some r) (e' : aZ r 8 = some r) : bK x = bK r := by
 have h1 : FA x = FA r := by simp only [FA, abl, s0, e, e']
 have h2 : Fz x = Fz r := by simp only [Fz, abk, s0, h1]
 simp only [bK, vB, s0, h2]
theorem iC {c : Option Com} (h : c.elim false fX = true) : Tot c First1 := by
 cases c with
 | none => cases h
 | some c => exact ⟨c, rfl, P0 h⟩
theorem CY (x : Int) : Tot (bK x) First1 := by
 obtain ⟨r, e, h0, h1⟩ := bD x 8 (by omega) (by omega)
 have hm := VV
 have hc : r = 0 ∨ r = 1 ∨ r = 2 ∨ r = 3 ∨ r = 4 ∨ r = 5 ∨ r = 6 ∨ r = 7 := by omega
 rcases hc with rfl | rfl | rfl | rfl | rfl | rfl | rfl | rfl
 ·rw [fd e hm.1.1]; exact iC acO
 ·rw [fd e hm.1.2.1]; exact iC acN
 ·rw [fd e hm.1.2.2.1]; exact iC acM
 ·rw [fd e hm.1.2.2.2]; exact iC acL
 ·rw [fd e hm.2.1]; exact iC acK
 ·rw [fd e hm.2.2.1]; exact iC acJ
 ·rw [fd e hm.2.2.2.1]; exact iC acI
 ·rw [fd e hm.2.2.2.2]; exact iC acH
theorem First1.his {c : Com} (h : First1 c) : HisP 0 [c] := ⟨h.h0, by simp, by simp, by have := h.len; simp [cE, bnd]; omega⟩
theorem Hw (first : Int) (l : List aQ.den) : Tot (im first l) (HisP 9) := by
 simp only [im, oB, tt]
 exact (CY first).mono fun c hc => l7 l FU [c] [c.1] 0 hc.his (by simp) (by simp) (by omega) (by rw [bn]; omega)
end Go.Proofs.YtboikinjlmjgjaaGreat.Abs
