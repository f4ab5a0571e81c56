/- Closed runs: comparisons, lengths, parts of strings and slices (the operations). Closed runs: lengths, parts of strings and slices, rows made and read whole. Closed runs: subslices, literals, rows made. Closed runs: values and rows put together. Closed runs: appends. Closed runs: appends, the operation; copies. -/
import Derived.Test.YtdjhicbhegaenaaGreatDoorCloI
import Derived.Laws.BytesString
import Derived.Deep.AppendSrc
import Derived.Laws.MakeOwn
namespace Go.Proofs.YtdjhicbhegaenaaGreatDoor.Clo
open Go Go.RowKit

section
variable {P : Program} {B : Nat} {w0 : W0} {φ : Gx} {h : Pos → EO} {w : World} {o : Oper} {a : Act}

def eqOp (neg : Bool) : BinOp := match neg with | true => .neq | false => .eql
def flip (neg b : Bool) : Bool := match neg with | true => !b | false => b

theorem ok_eq_of (hI : Inv B w0 φ h w) {neg : Bool} {t ty : TypeId} {x y : Operand} (ho : o.op = .binOp (eqOp neg) t x y ty) {b : Bool}
    (hg : (eqGuard (eqOp neg) t x y (a.eval x) (a.eval y)).run P w = .ok () w) (hb : ∀ op, (op = .eql ∨ op = .neq) → binOp op t (a.eval x) (a.eval y) = (do pure (.bool (flip (match op with | .neq => true | _ => false) (← Op.equal t (a.eval x) (a.eval y))))))
    (he : (Op.equal t (a.eval x) (a.eval y)).run P w = .ok b w) : OkX P B w0 φ h w o a (.pv (.one (.bl (flip neg b)))) none := by
  refine ok_ret hI ?_ (mk_bl _)
  unfold execOp
  cases neg
  · simp only [ho, eqOp, Sem.run_bind]
    rw [show (eqGuard .eql t x y (a.eval x) (a.eval y)).run P w = .ok () w from hg, hb .eql (.inl rfl)]
    simp [he, flip]
  · simp only [ho, eqOp, Sem.run_bind]
    rw [show (eqGuard .neq t x y (a.eval x) (a.eval y)).run P w = .ok () w from hg, hb .neq (.inr rfl)]
    simp [he, flip]

theorem rt_glob {n : Nat} {v : Value} (h : RT φ (.pv (.one (.glob n))) v) : v = .pointer (some ⟨n, 0, none⟩) := (Option.some.inj h).symm
theorem rt_nilp {v : Value} (h : RT φ (.pv (.one .nilp)) v) : v = .pointer none := (Option.some.inj h).symm
theorem rt_nils {v : Value} (h : RT φ (.pv (.one .nils)) v) : v = .slice none 0 0 := (Option.some.inj h).symm
theorem rt_nilm {v : Value} (h : RT φ (.pv (.one .nilm)) v) : v = .map none := (Option.some.inj h).symm
theorem rt_nilf {v : Value} (h : RT φ (.pv (.one .nilf)) v) : v = .nilFunc := (Option.some.inj h).symm
theorem rt_fnc {f : FuncId} {v : Value} (h : RT φ (.pv (.one (.fnc f))) v) : v = .func (.func f) #[] #[] := (Option.some.inj h).symm
theorem rt_nili {v : Value} (h : RT φ (.pv (.one .nili)) v) : v = .nilIface := (Option.some.inj h).symm
theorem rt_clo {k : Pos} {v : Value} (h : RT φ (.pv (.one (.clo k))) v) : ∃ fn x y, φ.val k = some (.func fn x y) ∧ v = .func fn x y := by
  have h : den φ (.clo k) = some v := h
  simp only [den] at h
  split at h
  · rename_i fn x y q; exact ⟨fn, x, y, q, (Option.some.inj h).symm⟩
  · cases h
theorem rt_ifc {k : Pos} {v : Value} (h : RT φ (.pv (.one (.ifc k))) v) : ∃ t u, φ.val k = some (.iface t u) ∧ v = .iface t u := by
  have h : den φ (.ifc k) = some v := h
  simp only [den] at h
  split at h
  · rename_i t u q; exact ⟨t, u, q, (Option.some.inj h).symm⟩
  · cases h


/-- What a comparison needs of the model. -/
def EqF (P : Program) (w : World) (neg : Bool) (t : TypeId) (x y : Operand) (v1 v2 : Value) (b : Bool) : Prop :=
  (eqGuard (eqOp neg) t x y v1 v2).run P w = .ok () w ∧ (∀ op, (op = .eql ∨ op = .neq) → binOp op t v1 v2 = (do pure (.bool (flip (match op with | .neq => true | _ => false) (← Op.equal t v1 v2))))) ∧ (Op.equal t v1 v2).run P w = .ok b w

section
variable {t e : TypeId} {neg : Bool} {x y : Operand}
theorem eqF_pp (hu : P.underlying t = some (.pointer e)) (q : Option Addr) : EqF P w neg t x y (.pointer none) (.pointer q) q.isNone := by
  refine ⟨by cases neg <;> simp [eqGuard, eqOp], by rintro op (rfl | rfl) <;> simp [binOp, flip], ?_⟩
  have : ∀ d, (Op.equalIn (d + 1) t (.pointer none) (.pointer q)).run P w = .ok q.isNone w := fun d => by simp [Op.equalIn, run_underlying hu]
  exact this 9999
theorem eqF_pn (hu : P.underlying t = some (.pointer e)) (q : Addr) : EqF P w neg t x y (.pointer (some q)) (.pointer none) false := by
  refine ⟨by cases neg <;> simp [eqGuard, eqOp], by rintro op (rfl | rfl) <;> simp [binOp, flip], ?_⟩
  have : ∀ d, (Op.equalIn (d + 1) t (.pointer (some q)) (.pointer none)).run P w = .ok false w := fun d => by simp [Op.equalIn, run_underlying hu]
  exact this 9999
theorem eqF_pq (hu : P.underlying t = some (.pointer e)) (hz : szOf P e ≠ 0) (b m n : Nat) : EqF P w neg t x y (.pointer (some ⟨b, m, none⟩)) (.pointer (some ⟨b, n, none⟩)) (Nat.beq m n) := by
  refine ⟨by cases neg <;> simp [eqGuard, eqOp], by rintro op (rfl | rfl) <;> simp [binOp, flip], ?_⟩
  have h2 : ((⟨b, m, none⟩ : Addr) == ⟨b, n, none⟩) = Nat.beq m n := by
    by_cases e3 : m = n
    · subst e3; simp [Nat.beq_refl]
    · have e4 : Nat.beq m n = false := by cases hx : Nat.beq m n with | false => rfl | true => exact absurd (beq_t.1 hx) e3
      rw [e4]
      simp [e3]
  have : ∀ d, (Op.equalIn (d + 1) t (.pointer (some ⟨b, m, none⟩)) (.pointer (some ⟨b, n, none⟩))).run P w = .ok (Nat.beq m n) w := fun d => by simp [Op.equalIn, run_underlying hu, run_sizeOf hz, hz, sameAddr, h2]
  exact this 9999
theorem eqF_sn (hu : P.underlying t = some (.slice e)) (q : Option Addr) (n c : Nat) : EqF P w neg t x y (.slice none 0 0) (.slice q n c) q.isNone := by
  refine ⟨by cases neg <;> simp [eqGuard, eqOp], by rintro op (rfl | rfl) <;> simp [binOp, flip], ?_⟩
  have : ∀ d, (Op.equalIn (d + 1) t (.slice none 0 0) (.slice q n c)).run P w = .ok q.isNone w := fun d => by simp [Op.equalIn, run_underlying hu]
  exact this 9999
theorem eqF_ns (hu : P.underlying t = some (.slice e)) (q : Addr) (n c : Nat) : EqF P w neg t x y (.slice (some q) n c) (.slice none 0 0) false := by
  refine ⟨by cases neg <;> simp [eqGuard, eqOp], by rintro op (rfl | rfl) <;> simp [binOp, flip], ?_⟩
  have : ∀ d, (Op.equalIn (d + 1) t (.slice (some q) n c) (.slice none 0 0)).run P w = .ok false w := fun d => by simp [Op.equalIn, run_underlying hu]
  exact this 9999
theorem eqF_mn {k : TypeId} (hu : P.underlying t = some (.map k e)) (q : Option Nat) : EqF P w neg t x y (.map none) (.map q) q.isNone := by
  refine ⟨by cases neg <;> simp [eqGuard, eqOp], by rintro op (rfl | rfl) <;> simp [binOp, flip], ?_⟩
  have : ∀ d, (Op.equalIn (d + 1) t (.map none) (.map q)).run P w = .ok q.isNone w := fun d => by simp [Op.equalIn, run_underlying hu]
  exact this 9999
theorem eqF_nm {k : TypeId} (hu : P.underlying t = some (.map k e)) (q : Nat) : EqF P w neg t x y (.map (some q)) (.map none) false := by
  refine ⟨by cases neg <;> simp [eqGuard, eqOp], by rintro op (rfl | rfl) <;> simp [binOp, flip], ?_⟩
  have : ∀ d, (Op.equalIn (d + 1) t (.map (some q)) (.map none)).run P w = .ok false w := fun d => by simp [Op.equalIn, run_underlying hu]
  exact this 9999
theorem eqF_ff {k l : Array TypeId} {m : Bool} (hu : P.underlying t = some (.func k l m)) : EqF P w neg t x y .nilFunc .nilFunc true := by
  refine ⟨by cases neg <;> simp [eqGuard, eqOp], by rintro op (rfl | rfl) <;> simp [binOp, flip], ?_⟩
  have : ∀ d, (Op.equalIn (d + 1) t .nilFunc .nilFunc).run P w = .ok true w := fun d => by simp [Op.equalIn, run_underlying hu]
  exact this 9999
theorem eqF_fg {k l : Array TypeId} {m : Bool} (hu : P.underlying t = some (.func k l m)) (f : Fn) (q r : Array Value) : EqF P w neg t x y .nilFunc (.func f q r) false := by
  refine ⟨by cases neg <;> simp [eqGuard, eqOp], by rintro op (rfl | rfl) <;> simp [binOp, flip], ?_⟩
  have : ∀ d, (Op.equalIn (d + 1) t .nilFunc (.func f q r)).run P w = .ok false w := fun d => by simp [Op.equalIn, run_underlying hu]
  exact this 9999
theorem eqF_gf {k l : Array TypeId} {m : Bool} (hu : P.underlying t = some (.func k l m)) (f : Fn) (q r : Array Value) : EqF P w neg t x y (.func f q r) .nilFunc false := by
  refine ⟨by cases neg <;> simp [eqGuard, eqOp], by rintro op (rfl | rfl) <;> simp [binOp, flip], ?_⟩
  have : ∀ d, (Op.equalIn (d + 1) t (.func f q r) .nilFunc).run P w = .ok false w := fun d => by simp [Op.equalIn, run_underlying hu]
  exact this 9999
theorem eqF_ii {m : Array (String × TypeId)} (hu : P.underlying t = some (.interface m)) (hc : (isC x || isC y) = true) : EqF P w neg t x y .nilIface .nilIface true := by
  refine ⟨by cases neg <;> cases x <;> cases y <;> first | rfl | (simp [isC] at hc), by rintro op (rfl | rfl) <;> simp [binOp, flip], ?_⟩
  have : ∀ d, (Op.equalIn (d + 1) t .nilIface .nilIface).run P w = .ok true w := fun d => by simp [Op.equalIn, run_underlying hu]
  exact this 9999
theorem eqF_ij {m : Array (String × TypeId)} (hu : P.underlying t = some (.interface m)) (u : TypeId) (v : Value) : EqF P w neg t x y .nilIface (.iface u v) false := by
  refine ⟨by cases neg <;> simp [eqGuard, eqOp], by rintro op (rfl | rfl) <;> simp [binOp, flip], ?_⟩
  have : ∀ d, (Op.equalIn (d + 1) t .nilIface (.iface u v)).run P w = .ok false w := fun d => by simp [Op.equalIn, run_underlying hu]
  exact this 9999
theorem eqF_ji {m : Array (String × TypeId)} (hu : P.underlying t = some (.interface m)) (u : TypeId) (v : Value) : EqF P w neg t x y (.iface u v) .nilIface false := by
  refine ⟨by cases neg <;> simp [eqGuard, eqOp], by rintro op (rfl | rfl) <;> simp [binOp, flip], ?_⟩
  have : ∀ d, (Op.equalIn (d + 1) t (.iface u v) .nilIface).run P w = .ok false w := fun d => by simp [Op.equalIn, run_underlying hu]
  exact this 9999
end

theorem eqk_inv {t : TypeId} {cn : Bool} {q : EqK} (h : eqkOf P t cn = some q) : match q with
  | .flat ks agg => ckOfT P 20 t = some ks ∧ agg = isSt (P.underlying t) ∧ (agg = true → P.eqGuardType P.depth t = false)
  | .ptr => ∃ e, P.underlying t = some (.pointer e) ∧ szOf P e ≠ 0
  | .slc => ∃ e, P.underlying t = some (.slice e)
  | .mp => ∃ k e, P.underlying t = some (.map k e)
  | .fnc => ∃ k l m, P.underlying t = some (.func k l m)
  | .ifc c => (∃ m, P.underlying t = some (.interface m)) ∧ c = cn := by
  unfold eqkOf at h
  split at h
  · rename_i e hu
    split at h
    · cases h
    · rename_i hz; simp only [Option.some.injEq] at h; subst h; exact ⟨e, hu, hz⟩
  · rename_i e hu; simp only [Option.some.injEq] at h; subst h; exact ⟨e, hu⟩
  · rename_i k e hu; simp only [Option.some.injEq] at h; subst h; exact ⟨k, e, hu⟩
  · rename_i k l m hu; simp only [Option.some.injEq] at h; subst h; exact ⟨k, l, m, hu⟩
  · rename_i m hu; simp only [Option.some.injEq] at h; subst h; exact ⟨⟨m, hu⟩, rfl⟩
  · rename_i fs hu
    split at h
    · cases h
    · rename_i hg
      split at h
      · rename_i ks hk; simp only [Option.some.injEq] at h; subst h; exact ⟨hk, by rw [hu]; rfl, fun _ => by simpa using hg⟩
      · cases h
  · cases h
  · rename_i d _ _ _ _ _ hst _ hu
    split at h
    · rename_i ks hk
      simp only [Option.some.injEq] at h
      subst h
      refine ⟨hk, ?_, fun x => by cases x⟩
      rw [hu]
      cases d <;> first | rfl | exact (hst _ rfl).elim
    · cases h
  · cases h

theorem eqF_flat {t : TypeId} {neg : Bool} {x y : Operand} (hni : ∀ k, P.underlying t ≠ some (.int k)) (hns : P.underlying t ≠ some .string) {ks : List CK} {agg : Bool} (hk : ckOfT P 20 t = some ks) (ha : agg = isSt (P.underlying t)) (hg : agg = true → P.eqGuardType P.depth t = false) {p q : PV} {v1 v2 : Value} {b : Bool} (h1 : denP φ p = some v1) (h2 : denP φ q = some v2) (he : eqP ks agg p q = some b) : EqF P w neg t x y v1 v2 b := by
  unfold eqP at he
  split at he
  · rename_i c c'
    cases hagg : agg with
    | true => rw [hagg] at he; cases he
    | false =>
      rw [hagg] at he ha
      have he : eqL ks [c] [c'] = some b := he
      have heq := eq_flat (P := P) (w := w) 20 9980 t ks hk (.one c) (.one c') v1 v2 b h1 h2 ha ha he
      have hu : P.underlying t = some .bool := by
        simp only [ckOfT] at hk
        split at hk
        · assumption
        · rename_i k hu; exact absurd hu (hni k)
        · rename_i hu; exact absurd hu hns
        · rename_i hu; rw [hu] at ha; cases ha
        · cases hk
      simp only [ckOfT, hu, Option.some.injEq] at hk
      subst hk
      cases c <;> cases c' <;> simp [eqL, eqC] at he
      have z1 := rt_bl (φ := φ) (v := v1) h1
      have z2 := rt_bl (φ := φ) (v := v2) h2
      rw [z1, z2] at heq ⊢
      exact ⟨by cases neg <;> simp [eqGuard, eqOp], by rintro op (rfl | rfl) <;> simp [binOp, flip], heq⟩
  · rename_i l m
    cases hagg : agg with
    | false => rw [hagg] at he; cases he
    | true =>
      have hg := hg hagg
      rw [hagg] at he ha
      have he : eqL ks l m = some b := he
      have heq := eq_flat (P := P) (w := w) 20 9980 t ks hk (.agg l) (.agg m) v1 v2 b h1 h2 ha ha he
      obtain ⟨xs, z1, _⟩ := rt_agg (φ := φ) (v := v1) h1
      obtain ⟨ys, z2, _⟩ := rt_agg (φ := φ) (v := v2) h2
      rw [z1, z2] at heq ⊢
      exact ⟨by cases neg <;> simp [eqGuard, eqOp, run_program, hg], by rintro op (rfl | rfl) <;> simp [binOp, flip], heq⟩
  · cases he

theorem eqF_of {t : TypeId} {neg : Bool} {x y : Operand} {q : EqK} (hni : ∀ k, P.underlying t ≠ some (.int k)) (hns : P.underlying t ≠ some .string) (hq0 : eqkOf P t (isC x || isC y) = some q) {a1 a2 : TV} {v1 v2 : Value} {b : Bool} (hr1 : RT φ a1 v1) (hr3 : RT φ a2 v2) (hb : eqQ q a1 a2 = some b) : EqF P w neg t x y v1 v2 b := by
  have hi := eqk_inv hq0
  unfold eqQ at hb
  split at hb
  · exact eqF_flat hni hns hi.1 hi.2.1 hi.2.2 hr1 hr3 hb
  · obtain ⟨e, hu, hz⟩ := hi
    split at hb
    all_goals first | (cases hb; done) | skip
    · simp only [Option.some.injEq] at hb; subst hb
      rw [rt_nilp hr1, rt_nilp hr3]
      exact eqF_pp hu none
    · simp only [Option.some.injEq] at hb; subst hb
      obtain ⟨l, _, z⟩ := rt_ptr hr3
      rw [rt_nilp hr1, z]
      exact eqF_pp hu (some _)
    · simp only [Option.some.injEq] at hb; subst hb
      obtain ⟨l, _, z⟩ := rt_ptr hr1
      rw [rt_nilp hr3, z]
      exact eqF_pn hu _
    · simp only [Option.some.injEq] at hb; subst hb
      rw [rt_nilp hr1, rt_glob hr3]
      exact eqF_pp hu (some _)
    · simp only [Option.some.injEq] at hb; subst hb
      rw [rt_glob hr1, rt_nilp hr3]
      exact eqF_pn hu _
    · rename_i k g o1 k' g' o2
      cases hc : (k.beq k' && Nat.beq g g') with
      | false => rw [hc] at hb; cases hb
      | true =>
        rw [hc, cond_true] at hb
        simp only [Bool.and_eq_true, Pos.beq_iff, beq_t] at hc
        obtain ⟨rfl, rfl⟩ := hc
        simp only [Option.some.injEq] at hb
        subst hb
        obtain ⟨l, l1, z⟩ := rt_ptr hr1
        obtain ⟨l', l2, z'⟩ := rt_ptr hr3
        rw [l1] at l2
        injection l2 with l2
        subst l2
        rw [z, z']
        exact eqF_pq hu hz _ _ _
  · obtain ⟨e, hu⟩ := hi
    split at hb
    all_goals first | (cases hb; done) | skip
    all_goals (simp only [Option.some.injEq] at hb; subst hb)
    · rw [rt_nils hr1, rt_nils hr3]; exact eqF_sn hu none 0 0
    · obtain ⟨l, _, z⟩ := rt_sl hr3
      rw [rt_nils hr1, z]; exact eqF_sn hu (some _) _ _
    · obtain ⟨l, _, z⟩ := rt_sl hr1
      rw [rt_nils hr3, z]; exact eqF_ns hu _ _ _
    · obtain ⟨l, c, z⟩ := rt_emp hr3
      rw [rt_nils hr1, z]; exact eqF_sn hu (some _) _ _
    · obtain ⟨l, c, z⟩ := rt_emp hr1
      rw [rt_nils hr3, z]; exact eqF_ns hu _ _ _
  · obtain ⟨k, e, hu⟩ := hi
    split at hb
    all_goals first | (cases hb; done) | skip
    all_goals (simp only [Option.some.injEq] at hb; subst hb)
    · rw [rt_nilm hr1, rt_nilm hr3]; exact eqF_mn hu none
    · obtain ⟨l, _, z⟩ := rt_mp hr3
      rw [rt_nilm hr1, z]; exact eqF_mn hu (some _)
    · obtain ⟨l, _, z⟩ := rt_mp hr1
      rw [rt_nilm hr3, z]; exact eqF_nm hu _
  · obtain ⟨k, l, m, hu⟩ := hi
    split at hb
    all_goals first | (cases hb; done) | skip
    all_goals (simp only [Option.some.injEq] at hb; subst hb)
    · rw [rt_nilf hr1, rt_nilf hr3]; exact eqF_ff hu
    · rw [rt_nilf hr1, rt_fnc hr3]; exact eqF_fg hu _ _ _
    · rw [rt_fnc hr1, rt_nilf hr3]; exact eqF_gf hu _ _ _
    · obtain ⟨_, _, _, _, z⟩ := rt_clo hr3
      rw [rt_nilf hr1, z]; exact eqF_fg hu _ _ _
    · obtain ⟨_, _, _, _, z⟩ := rt_clo hr1
      rw [rt_nilf hr3, z]; exact eqF_gf hu _ _ _
  · rename_i cn x1 y1
    obtain ⟨⟨m, hu⟩, hcn⟩ := hi
    split at hb
    all_goals first | (cases hb; done) | skip
    · cases hc : cn with
      | false => rw [hc] at hb; cases hb
      | true =>
        rw [hc] at hb
        simp only [cond_true, Option.some.injEq] at hb
        subst hb
        rw [rt_nili hr1, rt_nili hr3]
        exact eqF_ii hu (by rw [← hcn, hc])
    · simp only [Option.some.injEq] at hb; subst hb
      obtain ⟨_, _, _, z⟩ := rt_ifc hr3
      rw [rt_nili hr1, z]; exact eqF_ij hu _ _
    · simp only [Option.some.injEq] at hb; subst hb
      obtain ⟨_, _, _, z⟩ := rt_ifc hr1
      rw [rt_nili hr3, z]; exact eqF_ji hu _ _
  · cases hb

theorem ok_eql (hI : Inv B w0 φ h w) {neg : Bool} {t ty : TypeId} {x y : Operand} (ho : o.op = .binOp (eqOp neg) t x y ty) {q : EqK} (hni : ∀ k, P.underlying t ≠ some (.int k)) (hns : P.underlying t ≠ some .string) (hq0 : eqkOf P t (isC x || isC y) = some q) {vals : List TV} (hv : RTs φ vals [a.eval x, a.eval y]) {f : Pos} {out : TV} {wr : Option (Pos × EO)} (hq : (eEql neg q vals f).run h = some (out, wr)) : OkX P B w0 φ h w o a out wr := by
  unfold eEql at hq
  split at hq
  · obtain ⟨v1, ws, e1, hr1, hr2⟩ := hv.cons
    obtain ⟨v2, e2, hr3⟩ := hr2.one
    subst e2
    simp only [List.cons.injEq, and_true] at e1
    obtain ⟨e1, e2⟩ := e1
    subst e1; subst e2
    split at hq
    · rename_i b hb
      rw [run_retB] at hq
      simp only [Option.some.injEq, Prod.mk.injEq] at hq
      obtain ⟨rfl, rfl⟩ := hq
      obtain ⟨h1, h2, h3⟩ := eqF_of (neg := neg) hni hns hq0 hr1 hr3 hb (w := w)
      exact ok_eq_of hI ho h1 h2 h3
    · cases hq
  · cases hq

end
end Go.Proofs.YtdjhicbhegaenaaGreatDoor.Clo
namespace Go.Proofs.YtdjhicbhegaenaaGreatDoor.Clo
open Go Go.RowKit

theorem sized_len {s : Nat} : ∀ {l : List (List CV)}, sizedOk s l = true → ∀ a ∈ l, a.length = s
  | [], _, _, h => by cases h
  | x :: l, hs, a, h => by
    simp only [sizedOk] at hs
    cases hb : Nat.beq x.length s with
    | false => rw [hb] at hs; cases hs
    | true =>
      rw [hb] at hs
      rcases List.mem_cons.1 h with rfl | h
      · exact beq_t.1 hb
      · exact sized_len hs a h
theorem sized_mk {s : Nat} : ∀ {l : List (List CV)}, (∀ a ∈ l, a.length = s) → sizedOk s l = true
  | [], _ => rfl
  | x :: l, h => by
    simp only [sizedOk]
    rw [beq_t.2 (h x (by simp)), cond_true]
    exact sized_mk fun a ha => h a (by simp [ha])
theorem flat_len {α : Type} {s : Nat} : ∀ {l : List (List α)}, (∀ a ∈ l, a.length = s) → l.flatten.length = l.length * s
  | [], _ => by simp
  | x :: l, h => by
    rw [List.flatten_cons, List.length_append, h x (by simp), flat_len fun a ha => h a (by simp [ha]), List.length_cons, Nat.succ_mul, Nat.add_comm]
theorem flat_get {α : Type} {s : Nat} : ∀ {l : List (List α)}, (∀ a ∈ l, a.length = s) → ∀ {i j : Nat} {a : List α} {c : α}, l[i]? = some a → a[j]? = some c → l.flatten[i * s + j]? = some c
  | [], _, i, j, a, c, h, _ => by simp at h
  | x :: l, hs, i, j, a, c, h, hj => by
    have hx := hs x (by simp)
    cases i with
    | zero =>
      simp at h
      subst h
      have := (List.getElem?_eq_some_iff.1 hj).1
      rw [List.flatten_cons, Nat.zero_mul, Nat.zero_add, List.getElem?_append_left this]
      exact hj
    | succ i =>
      simp at h
      have := flat_get (fun a ha => hs a (by simp [ha])) h hj
      have e : (i + 1) * s + j = x.length + (i * s + j) := by rw [hx, Nat.succ_mul]; omega
      rw [List.flatten_cons, e, List.getElem?_append_right (by omega), Nat.add_sub_cancel_left]
      exact this
theorem addRows_get {m : Nat} : ∀ {l : List (List CV)} {el : PT Ch} {i : Nat}, i + l.length + 2 ≤ 2 ^ 32 → ∀ j, (addRows m l el i).get dch j = if h : i ≤ j ∧ j < i + l.length then ⟨l[j - i]'(by omega), m⟩ else el.get dch j
  | [], el, i, _, j => by rw [dif_neg (by simp)]; rfl
  | a :: l, el, i, hb, j => by
    simp only [List.length_cons] at hb
    simp only [addRows]
    rw [addRows_get (l := l) (i := i + 1) (by omega) j, PT.get_set dch _ 32 el i j (by omega)]
    by_cases h1 : i = j
    · subst h1
      rw [dif_neg (by omega), if_pos rfl, dif_pos (by simp)]
      simp
    · rw [if_neg h1]
      by_cases h2 : i + 1 ≤ j ∧ j < i + 1 + l.length
      · rw [dif_pos h2, dif_pos (by simp; omega)]
        congr 1
        have : j - i = (j - (i + 1)) + 1 := by omega
        simp [this]
      · rw [dif_neg h2, dif_neg (by simp; omega)]

section
variable {P : Program} {B : Nat} {w0 : W0} {φ : Gx} {h : Pos → EO} {w : World} {o : Oper} {a : Act}

/-- A new row. -/
theorem Inv.newR (hI : Inv B w0 φ h w) {k : Pos} (hk : h k = .none) {e : TypeId} {s N : Nat} {l : List (List CV)} {vs : List Value} {arr : Array Value} {fr : Nat × Nat} {fz : Fz} (hs : 0 < s) (hl : ∀ a ∈ l, a.length = s) (hd : dens φ l.flatten = some vs)
    (harr : ∀ (j : Nat) (v : Value), vs[j]? = some v → arr[j]? = some v) (hN : arr.size = N * s) (hn : l.length ≤ N) (hb : l.length + 2 ≤ 2 ^ 32) (hfr : FrOk fr arr.size fz) :
    φ.le (φ.add k ⟨w.heap.size, N, s⟩) ∧ Inv B w0 (φ.add k ⟨w.heap.size, N, s⟩) (upd h k (.row e s (addRows 0 l .leaf 0) l.length 0 fz)) (w.alloc (.cells arr e fr)) := by
  have hle := hI.le_add hk ⟨w.heap.size, N, s⟩
  have hget := fun j => addRows_get (m := 0) (l := l) (el := .leaf) (i := 0) (by omega) j
  refine ⟨hle, hI.new hk rfl ⟨hs, hb, fun i hi => ?_, fun g hg => ?_, fun g hg => ⟨⟨w.heap.size, N, s⟩, ?_, ⟨hI.size, rfl, arr, fr, heap_alloc_new w _, hN, hfr, fun i hi _ => ⟨by show i < N; omega, ?_⟩⟩, fun _ => hn⟩⟩⟩
  · rw [hget, dif_pos (by omega)]
    exact Nat.le_refl _
  · simp only [Gx.add, if_true]
    rw [if_neg (by omega)]
  · obtain rfl : g = 0 := by omega
    exact Gx.add_self _ _ _
  · rw [hget, dif_pos (by omega)]
    have hmem : l[i - 0]'(by omega) ∈ l := List.getElem_mem _
    refine ⟨hl _ hmem, fun j c hj => ?_⟩
    have hj : (l[i - 0]'(by omega))[j]? = some c := hj
    obtain ⟨v, z1, z2⟩ := dens_get hd (flat_get hl (i := i - 0) (List.getElem?_eq_getElem (by omega)) hj)
    rw [Nat.sub_zero] at z1
    exact ⟨v, harr _ _ z1, den_mono hle z2⟩

/-- Elements of a row are what the memory holds. -/
theorem Inv.rds (hI : Inv B w0 φ h w) {k : Pos} {g s : Nat} {l : Loc} (hl : φ.loc k g = some l) : ∀ {n off : Nat} {x : List (List CV)}, rdRows (h k) g s n off = some x → x.length = n ∧ (∀ a ∈ x, a.length = s) ∧ ∃ vs, dens φ x.flatten = some vs ∧ ∀ j u, vs[j]? = some u → w.cell? ((⟨l.b, off, none⟩ : Addr).add j) = some u
  | 0, off, x, hx => by
    simp only [rdRows, Option.some.injEq] at hx
    subst hx
    exact ⟨rfl, (fun _ q => by cases q), [], rfl, fun j u q => by simp at q⟩
  | n + 1, off, x, hx => by
    simp only [rdRows] at hx
    split at hx
    · rename_i a r h1 h2
      simp only [Option.some.injEq] at hx
      subst hx
      obtain ⟨vs, q1, q2, q3, _⟩ := hI.rd h1 hl
      obtain ⟨p1, p2, ws, p3, p4⟩ := hI.rds hl h2
      refine ⟨by simp [p1], fun b hb => ?_, vs ++ ws, dens_append q1 p3, fun j u hu => ?_⟩
      · rcases List.mem_cons.1 hb with rfl | hb
        · exact q2
        · exact p2 b hb
      · have hvl := dens_len q1
        by_cases hj : j < vs.length
        · rw [List.getElem?_append_left hj] at hu
          exact q3 j u hu
        · rw [List.getElem?_append_right (by omega)] at hu
          have := p4 _ u hu
          rw [add_at] at this ⊢
          rw [show off + s + (j - vs.length) = off + j by omega] at this
          exact this
    · cases hx

theorem ok_lens (hI : Inv B w0 φ h w) {cl : Call} {x : Operand} {t : TypeId} (ho : o.op = .call cl) (hcl : cl.callee = .builtin .len) (hargs : cl.args = #[x]) (hty : cl.argTypes = #[t]) (hu : P.underlying t = some .string) {vals : List TV} (hv : RTs φ vals [a.eval x]) {f : Pos} {out : TV} {wr : Option (Pos × EO)} (hq : (eLens vals f).run h = some (out, wr)) : OkX P B w0 φ h w o a out wr := by
  unfold eLens at hq
  split at hq
  · obtain ⟨v, e, hr⟩ := hv.one
    simp only [List.cons.injEq, and_true] at e
    subst e
    split at hq
    · rename_i b
      rw [run_retI] at hq; simp only [Option.some.injEq, Prod.mk.injEq] at hq; obtain ⟨rfl, rfl⟩ := hq
      refine ok_ret hI ?_ (mk_int _ _)
      unfold execOp
      simp [ho, resolve, hcl, hargs, invoke, builtin, Builtin.len_, hty, (rt_str hr).2, strV, run_underlying hu, goInt, strV_size]
    · cases hq
  · cases hq
theorem ok_lenl (hI : Inv B w0 φ h w) {cl : Call} {x : Operand} {t e : TypeId} (ho : o.op = .call cl) (hcl : cl.callee = .builtin .len) (hargs : cl.args = #[x]) (hty : cl.argTypes = #[t]) (hu : P.underlying t = some (.slice e)) {vals : List TV} (hv : RTs φ vals [a.eval x]) {f : Pos} {out : TV} {wr : Option (Pos × EO)} (hq : (eLenl vals f).run h = some (out, wr)) : OkX P B w0 φ h w o a out wr := by
  unfold eLenl at hq
  split at hq
  · obtain ⟨v, e, hr⟩ := hv.one
    simp only [List.cons.injEq, and_true] at e
    subst e
    split at hq
    all_goals first | (cases hq; done) | skip
    all_goals (rw [run_retI] at hq; simp only [Option.some.injEq, Prod.mk.injEq] at hq; obtain ⟨rfl, rfl⟩ := hq; refine ok_ret hI ?_ (mk_int _ _); unfold execOp)
    · simp [ho, resolve, hcl, hargs, invoke, builtin, Builtin.len_, hty, rt_nils hr, run_underlying hu, goInt]
    · obtain ⟨_, _, z⟩ := rt_emp hr
      simp [ho, resolve, hcl, hargs, invoke, builtin, Builtin.len_, hty, z, run_underlying hu, goInt]
    · obtain ⟨_, _, z⟩ := rt_sl hr
      simp [ho, resolve, hcl, hargs, invoke, builtin, Builtin.len_, hty, z, run_underlying hu, goInt]
  · cases hq
theorem ok_lenm (hI : Inv B w0 φ h w) {cl : Call} {x : Operand} {t e k : TypeId} (ho : o.op = .call cl) (hcl : cl.callee = .builtin .len) (hargs : cl.args = #[x]) (hty : cl.argTypes = #[t]) (hu : P.underlying t = some (.map k e)) {vals : List TV} (hv : RTs φ vals [a.eval x]) {f : Pos} {out : TV} {wr : Option (Pos × EO)} (hq : (eLenm vals f).run h = some (out, wr)) : OkX P B w0 φ h w o a out wr := by
  unfold eLenm at hq
  split at hq
  · obtain ⟨v, e, hr⟩ := hv.one
    simp only [List.cons.injEq, and_true] at e
    subst e
    split at hq
    all_goals first | (cases hq; done) | skip
    · rw [run_retI] at hq; simp only [Option.some.injEq, Prod.mk.injEq] at hq; obtain ⟨rfl, rfl⟩ := hq
      refine ok_ret hI ?_ (mk_int _ _)
      unfold execOp
      simp [ho, resolve, hcl, hargs, invoke, builtin, Builtin.len_, hty, rt_nilm hr, run_underlying hu, goInt]
    · rename_i m
      simp only [Q.run] at hq
      have hob := hI.obj m
      split at hq
      · rename_i es cl' hm
        rw [run_retI] at hq; simp only [Option.some.injEq, Prod.mk.injEq] at hq; obtain ⟨rfl, rfl⟩ := hq
        rw [hm] at hob
        obtain ⟨_, l, vs, q1, _, q3, q4, _⟩ := hob
        obtain ⟨l', l2, z⟩ := rt_mp hr
        rw [q1] at l2
        injection l2 with l2
        subst l2
        refine ok_ret hI (v := .int .i64 vs.size) ?_ (by show some (Value.int .i64 (Int.ofNat es.length)) = _; rw [← q4, Array.length_toList]; rfl)
        have hget : (getObj l.b).run P w = .ok (.map vs cl') w := by simp [getObj, Sem.run, q3]
        unfold execOp
        simp [ho, resolve, hcl, hargs, invoke, builtin, Builtin.len_, hty, z, run_underlying hu, goInt, hget]
      · cases hq
  · cases hq
theorem ok_lena (hI : Inv B w0 φ h w) {cl : Call} {x : Operand} {t e : TypeId} {n : Nat} (ho : o.op = .call cl) (hcl : cl.callee = .builtin .len) (hargs : cl.args = #[x]) (hty : cl.argTypes = #[t]) (hu : P.underlying t = some (.array n e)) {vals : List TV} {f : Pos} {out : TV} {wr : Option (Pos × EO)} (hq : (eLena n vals f).run h = some (out, wr)) : OkX P B w0 φ h w o a out wr := by
  unfold eLena at hq
  split at hq
  · rw [run_retI] at hq; simp only [Option.some.injEq, Prod.mk.injEq] at hq; obtain ⟨rfl, rfl⟩ := hq
    refine ok_ret hI ?_ (mk_int _ _)
    unfold execOp
    simp [ho, resolve, hcl, hargs, invoke, builtin, Builtin.len_, hty, run_underlying hu, goInt]
  · cases hq
theorem ok_capl (hI : Inv B w0 φ h w) {cl : Call} {x : Operand} {t e : TypeId} (ho : o.op = .call cl) (hcl : cl.callee = .builtin .cap) (hargs : cl.args = #[x]) (hty : cl.argTypes = #[t]) (hu : P.underlying t = some (.slice e)) {vals : List TV} (hv : RTs φ vals [a.eval x]) {f : Pos} {out : TV} {wr : Option (Pos × EO)} (hq : (eCapl vals f).run h = some (out, wr)) : OkX P B w0 φ h w o a out wr := by
  unfold eCapl at hq
  split at hq
  · obtain ⟨v, e, hr⟩ := hv.one
    simp only [List.cons.injEq, and_true] at e
    subst e
    split at hq
    all_goals first | (cases hq; done) | skip
    all_goals (rw [run_retI] at hq; simp only [Option.some.injEq, Prod.mk.injEq] at hq; obtain ⟨rfl, rfl⟩ := hq; refine ok_ret hI ?_ (mk_int _ _); unfold execOp)
    · simp [ho, resolve, hcl, hargs, invoke, builtin, Builtin.cap_, hty, rt_nils hr, run_underlying hu, goInt]
    · obtain ⟨_, _, z⟩ := rt_sl hr
      simp [ho, resolve, hcl, hargs, invoke, builtin, Builtin.cap_, hty, z, capD, run_underlying hu, goInt]
  · cases hq

theorem bytes_sound : ∀ {l : List (List CV)} {b : List Nat} {vs : List Value}, bytesOf l = some b → dens φ l.flatten = some vs → okStr b = true ∧ vs = b.map fun c => Value.int .u8 (Int.ofNat c)
  | [], b, vs, h, hd => by
    simp only [bytesOf, Option.some.injEq] at h
    subst h
    simp only [List.flatten_nil, dens, Option.some.injEq] at hd
    subst hd
    exact ⟨rfl, rfl⟩
  | x :: l, b, vs, h, hd => by
    unfold bytesOf at h
    split at h
    · rename_i h0; cases h0
    · rename_i n l' h0
      injection h0 with h0 h1
      subst h0; subst h1
      cases hb : Nat.blt n 256 with
      | false => rw [hb] at h; cases h
      | true =>
        rw [hb, cond_true] at h
        split at h
        · rename_i b' hb'
          simp only [Option.some.injEq] at h
          subst h
          obtain ⟨v, ws, rfl, h1, h2⟩ := dens_cons hd
          obtain ⟨q1, q2⟩ := bytes_sound hb' h2
          have h1 : some (Value.int .u8 (Int.ofNat n)) = some v := h1
          injection h1 with h1
          exact ⟨okStr_mk (blt_t.1 hb) q1, by rw [q2, ← h1]; rfl⟩
        · cases h
    · cases h

theorem run_b2s (b : List Nat) (ad : Addr) (c : Nat) (hload : (loadCells ad b.length).run P w = .ok (b.map fun c => Value.int .u8 (Int.ofNat c)).toArray w) : (Conv.bytesToString (.slice (some ad) b.length c)).run P w = .ok (strV b) w := by
  have hload' : (loadCells ad b.length).run P w = .ok ((b.map Int.ofNat).map (Value.int .u8)).toArray w := by
    rw [hload, List.map_map]; rfl
  rw [run_bytesToString (P := P) w ad b.length c (b.map Int.ofNat) hload']
  have hfold : ∀ (ns : List Nat) (acc : ByteArray), (ns.map Int.ofNat).foldl (fun r n => r.push (UInt8.ofNat n.toNat)) acc = ⟨acc.data ++ (ns.map UInt8.ofNat).toArray⟩ := by
    intro ns
    induction ns with
    | nil => intro acc; simp
    | cons n ns ih => intro acc; simp only [List.map_cons, List.foldl_cons, ih]; congr 1; simp [ByteArray.push]
  rw [hfold]
  unfold strV
  congr 3
  simp

theorem ok_b2s (hI : Inv B w0 φ h w) {s t e : TypeId} {x : Operand} (ho : o.op = .convert s t x) (hs : P.underlying s = some (.slice e)) (ht : P.underlying t = some .string) (he : P.underlying e = some (.int .u8)) {vals : List TV} (hv : RTs φ vals [a.eval x]) {f : Pos} {out : TV} {wr : Option (Pos × EO)} (hq : (eB2s vals f).run h = some (out, wr)) : OkX P B w0 φ h w o a out wr := by
  unfold eB2s at hq
  split at hq
  · obtain ⟨v, e1, hr⟩ := hv.one
    simp only [List.cons.injEq, and_true] at e1
    subst e1
    split at hq
    · simp only [retV, Q.run, Option.some.injEq, Prod.mk.injEq] at hq
      obtain ⟨rfl, rfl⟩ := hq
      refine ok_ret hI (v := .string ⟨#[]⟩) ?_ (mk_str rfl)
      unfold execOp
      simp [ho, rt_nils hr, convert, run_underlying hs, run_underlying ht, run_underlying he, Conv.bytesToString]
      rfl
    · rename_i k g off n cap
      simp only [Q.run] at hq
      split at hq
      · rename_i l hl
        split at hq
        · rename_i b hb
          simp only [retV, Q.run, Option.some.injEq, Prod.mk.injEq] at hq
          obtain ⟨rfl, rfl⟩ := hq
          obtain ⟨lc, l1, z⟩ := rt_sl hr
          obtain ⟨q1, _, vs, q3, q4⟩ := hI.rds l1 hl
          obtain ⟨p1, p2⟩ := bytes_sound hb q3
          have hbl : b.length = n := by
            have : vs.length = n * 1 := by rw [dens_len q3, flat_len (s := 1) (fun a ha => (hI.rds l1 hl).2.1 a ha), q1]
            rw [p2] at this
            simpa using this
          refine ok_ret hI ?_ (mk_str p1)
          have hload := run_loadCells_list (P := P) w ⟨lc.b, off, none⟩ vs q4
          rw [p2] at hload
          have hr2 := run_b2s (P := P) (w := w) b ⟨lc.b, off, none⟩ (capD cap lc.n (off / lc.s)) (by simpa using hload)
          rw [hbl] at hr2
          unfold execOp
          simp [ho, z, convert, run_underlying hs, run_underlying ht, run_underlying he, hr2]
        · cases hq
      · cases hq
    · cases hq
  · cases hq

end
end Go.Proofs.YtdjhicbhegaenaaGreatDoor.Clo
namespace Go.Proofs.YtdjhicbhegaenaaGreatDoor.Clo
open Go Go.RowKit

theorem zeros_flat (z : Array Value) (n : Nat) (hz : 0 < z.size) : ((Array.range (n * z.size)).map (z[· % z.size]!)).toList = (List.replicate n z.toList).flatten := by
  apply List.ext_getElem?
  intro p
  have hr : ∀ a ∈ List.replicate n z.toList, a.length = z.size := fun a ha => by rw [List.eq_of_mem_replicate ha]; simp
  by_cases hp : p < n * z.size
  · have h1 : p / z.size < n := Nat.div_lt_of_lt_mul (by rw [Nat.mul_comm]; exact hp)
    have h2 : p % z.size < z.size := Nat.mod_lt _ hz
    have h3 : (List.replicate n z.toList).flatten[p / z.size * z.size + p % z.size]? = some z[p % z.size] := flat_get hr (a := z.toList) (by rw [List.getElem?_replicate, if_pos h1]) (by simp [h2])
    rw [Nat.mul_comm, Nat.div_add_mod] at h3
    rw [h3]
    simp [hp, h2]
  · rw [List.getElem?_eq_none (by simp; omega), List.getElem?_eq_none (by rw [flat_len hr]; simp; omega)]
theorem drop_rep {α : Type} {z : List α} {s : Nat} (hz : z.length = s) : ∀ (k n : Nat), k ≤ n → (List.replicate n z).flatten.drop (k * s) = (List.replicate (n - k) z).flatten
  | 0, n, _ => by simp
  | k + 1, n + 1, h => by
    rw [List.replicate_succ, List.flatten_cons, Nat.succ_mul, Nat.add_comm, ← List.drop_drop, ← hz, List.drop_left, hz, drop_rep hz k n (by omega), show n + 1 - (k + 1) = n - k by omega]
  | k + 1, 0, h => by omega
theorem take_drop_flat {α : Type} (l : List α) (n : Nat) : l.take n ++ l.drop n = l := List.take_append_drop n l

theorem dens_rep {φ : Gx} {zs : List CV} {z : List Value} (h : dens φ zs = some z) : ∀ n, dens φ (List.replicate n zs).flatten = some (List.replicate n z).flatten
  | 0 => rfl
  | n + 1 => by
    rw [List.replicate_succ, List.flatten_cons, List.replicate_succ, List.flatten_cons]
    exact dens_append h (dens_rep h n)

theorem fill_foldl (off : Nat) : ∀ (vs : List Value) (k : Nat) (cells : Array Value), off + k + vs.length ≤ cells.size →
    ((vs.zipIdx k).foldl (fun cs (x : Value × Nat) => cs.setIfInBounds (off + x.2) x.1) cells).toList = cells.toList.take (off + k) ++ vs ++ cells.toList.drop (off + k + vs.length)
  | [], k, cells, _ => by simp
  | v :: vs, k, cells, h => by
    simp only [List.zipIdx_cons, List.foldl_cons]
    simp only [List.length_cons] at h
    rw [fill_foldl off vs (k + 1) _ (by simp; omega)]
    have hlt : off + k < cells.toList.length := by simp; omega
    simp only [Array.toList_setIfInBounds, List.length_cons]
    rw [show off + (k + 1) = off + k + 1 by omega, show off + k + 1 + vs.length = off + k + (vs.length + 1) by omega, List.take_set, List.drop_set_of_lt (by omega),
      List.take_succ_eq_append_getElem hlt, List.set_append_right _ _ (by simp; omega)]
    have hm : min (off + k) cells.size = off + k := by omega
    simp [hm]
theorem fill_cells (off : Nat) (v : Value) (cells : Array Value) (h : off + v.cells.size ≤ cells.size) :
    (v.cells.zipIdx.foldl (fun cs (x : Value × Nat) => cs.setIfInBounds (off + x.2) x.1) cells).toList = cells.toList.take off ++ v.cells.toList ++ cells.toList.drop (off + v.cells.size) := by
  rw [← Array.foldl_toList, Array.toList_zipIdx]
  have := fill_foldl off v.cells.toList 0 cells (by simpa using h)
  simpa using this
theorem fill_row (size : Nat) : ∀ (vs : List Value) (i : Nat) (arr : Array Value), (∀ v ∈ vs, v.cells.size = size) → (i + vs.length) * size ≤ arr.size →
    ∃ arr', Instr.fill (fun i => some (i * size, size)) arr ((List.range' i vs.length).zip vs) = some arr' ∧ arr'.toList = arr.toList.take (i * size) ++ (vs.map fun v => v.cells.toList).flatten ++ arr.toList.drop ((i + vs.length) * size)
  | [], i, arr, _, h => ⟨arr, by simp [Instr.fill], by simp⟩
  | v :: vs, i, arr, hv, h => by
    have h0 := hv v (by simp)
    have hm : i * size + size ≤ (i + (v :: vs).length) * size := by rw [← Nat.succ_mul]; exact Nat.mul_le_mul_right _ (by simp)
    have hfit : i * size + v.cells.size ≤ arr.size := by rw [h0]; omega
    have hfc := fill_cells (i * size) v arr hfit
    have hsz : (v.cells.zipIdx.foldl (fun cs (x : Value × Nat) => cs.setIfInBounds (i * size + x.2) x.1) arr).size = arr.size := by
      rw [← Array.length_toList, hfc]
      simp
      omega
    have e3 : (i + 1 + vs.length) * size = (i + (v :: vs).length) * size := by congr 1; simp; omega
    obtain ⟨arr', e1, e2⟩ := fill_row size vs (i + 1) (v.cells.zipIdx.foldl (fun cs (x : Value × Nat) => cs.setIfInBounds (i * size + x.2) x.1) arr) (fun u hu => hv u (by simp [hu])) (by rw [hsz, e3]; exact h)
    refine ⟨arr', ?_, ?_⟩
    · simp only [List.length_cons, List.range'_succ, List.zip_cons_cons, Instr.fill]
      have hno : ¬ (v.cells.size ≠ size || i * size + v.cells.size > arr.size) = true := by
        simp [h0]; omega
      rw [if_neg hno]
      exact e1
    · rw [e2, hfc]
      have hl : (arr.toList.take (i * size) ++ v.cells.toList).length = (i + 1) * size := by
        simp [h0, Nat.succ_mul]; omega
      have hd : (arr.toList.take (i * size) ++ v.cells.toList ++ arr.toList.drop (i * size + v.cells.size)).drop ((i + 1 + vs.length) * size) = arr.toList.drop ((i + (v :: vs).length) * size) := by
        have e4 : (i + 1 + vs.length) * size = (i + 1) * size + vs.length * size := Nat.add_mul _ _ _
        rw [e4, ← List.drop_drop, ← hl, List.drop_left, List.drop_drop]
        congr 1
        rw [h0, ← e3, e4, Nat.succ_mul]
      rw [hd, ← hl, List.take_left]
      simp

section
variable {P : Program} {B : Nat} {w0 : W0} {φ : Gx} {h : Pos → EO} {w : World} {o : Oper} {a : Act}

def BdOk : Option Value → Option Nat → Prop
  | none, none => True
  | some v, some n => ∃ k, v = .int k (Int.ofNat n)
  | _, _ => False

theorem optB_inv {b : Option Operand} {r r' : List TV} {n : Option Nat} {vs : List Value} (hq : optB b.isSome r = some (n, r')) (hv : RTs φ r (b.toList.map a.eval ++ vs)) : BdOk (b.map a.eval) n ∧ RTs φ r' vs := by
  cases b with
  | none =>
    simp only [optB, Option.isSome_none, Option.some.injEq, Prod.mk.injEq] at hq
    obtain ⟨rfl, rfl⟩ := hq
    exact ⟨trivial, hv⟩
  | some x =>
    simp only [optB, Option.isSome_some] at hq
    split at hq
    · rename_i t r1
      split at hq
      · rename_i k m
        simp only [Option.some.injEq, Prod.mk.injEq] at hq
        obtain ⟨rfl, rfl⟩ := hq
        obtain ⟨v, ws, e, h1, h2⟩ := hv.cons
        simp only [Option.toList_some, List.map_cons, List.map_nil, List.cons_append, List.nil_append, List.cons.injEq] at e
        obtain ⟨rfl, rfl⟩ := e
        exact ⟨⟨k, rt_int h1⟩, h2⟩
      · cases hq
    · cases hq

theorem bnds_inv {lo hi mx : Option Operand} {r : List TV} {k : Option Nat → Option Nat → Option Nat → Q} {res : TV × Option (Pos × EO)} (hq : (bnds lo.isSome hi.isSome mx.isSome r k).run h = some res) (hv : RTs φ r (lo.toList.map a.eval ++ (hi.toList.map a.eval ++ mx.toList.map a.eval))) :
    ∃ l m n, (k l m n).run h = some res ∧ BdOk (lo.map a.eval) l ∧ BdOk (hi.map a.eval) m ∧ BdOk (mx.map a.eval) n := by
  unfold bnds at hq
  split at hq
  · rename_i l r1 h1
    split at hq
    · rename_i m r2 h2
      split at hq
      · rename_i n h3
        obtain ⟨b1, v1⟩ := optB_inv h1 hv
        obtain ⟨b2, v2⟩ := optB_inv h2 v1
        obtain ⟨b3, _⟩ := optB_inv (vs := []) h3 (by simpa using v2)
        exact ⟨l, m, n, hq, b1, b2, b3⟩
      · cases hq
    · cases hq
  · cases hq

theorem run_bounds (w : World) (isSlice : Bool) (len cap : Nat) {lo hi mx : Option Value} {l m n : Option Nat} (h1 : BdOk lo l) (h2 : BdOk hi m) (h3 : BdOk mx n) (c1 : gD n cap ≤ cap) (c2 : gD m len ≤ gD n cap) (c3 : gD l 0 ≤ gD m len) (c4 : needH m n = true) :
    (Instr.sliceBounds isSlice len cap lo hi mx).run P w = .ok (gD l 0, gD m len, gD n cap) w := by
  have sb : ∀ (k : IntKind) (x y : Nat) (c : BoundsCode), x ≤ y → (Instr.sliceBound (.int k (Int.ofNat x)) y c).run P w = .ok x w := fun k x y c hxy => by
    have : (x : Int) ≤ (y : Int) := by omega
    simp [Instr.sliceBound, asIntOf, this]
  cases mx with
  | none =>
    cases n with
    | some n => exact h3.elim
    | none =>
      simp only [gD] at c1 c2 c3 ⊢
      cases hi with
      | none =>
        cases m with
        | some m => exact h2.elim
        | none =>
          cases lo with
          | none =>
            cases l with
            | some l => exact h1.elim
            | none => simp [Instr.sliceBounds]
          | some v =>
            cases l with
            | none => exact h1.elim
            | some l =>
              obtain ⟨k, rfl⟩ := h1
              simp only [Instr.sliceBounds, Sem.run_bind, Sem.run_pure, Result.andThen_ok, sb k l _ _ c3]
      | some vh =>
        cases m with
        | none => exact h2.elim
        | some m =>
          obtain ⟨k2, rfl⟩ := h2
          cases lo with
          | none =>
            cases l with
            | some l => exact h1.elim
            | none => simp only [Instr.sliceBounds, Sem.run_bind, Sem.run_pure, Result.andThen_ok, sb k2 m _ _ c2]
          | some v =>
            cases l with
            | none => exact h1.elim
            | some l =>
              obtain ⟨k, rfl⟩ := h1
              simp only [Instr.sliceBounds, Sem.run_bind, Sem.run_pure, Result.andThen_ok, sb k2 m _ _ c2, sb k l _ _ c3]
  | some vm =>
    cases n with
    | none => exact h3.elim
    | some n =>
      obtain ⟨k3, rfl⟩ := h3
      simp only [gD] at c1 c2 c3 ⊢
      cases hi with
      | none =>
        cases m with
        | some m => exact h2.elim
        | none => simp [needH] at c4
      | some vh =>
        cases m with
        | none => exact h2.elim
        | some m =>
          obtain ⟨k2, rfl⟩ := h2
          cases lo with
          | none =>
            cases l with
            | some l => exact h1.elim
            | none => simp only [Instr.sliceBounds, Sem.run_bind, Sem.run_pure, Result.andThen_ok, sb k3 n _ _ c1, sb k2 m _ _ c2]
          | some v =>
            cases l with
            | none => exact h1.elim
            | some l =>
              obtain ⟨k, rfl⟩ := h1
              simp only [Instr.sliceBounds, Sem.run_bind, Sem.run_pure, Result.andThen_ok, sb k3 n _ _ c1, sb k2 m _ _ c2, sb k l _ _ c3]

theorem ok_subs (hI : Inv B w0 φ h w) {t : TypeId} {x : Operand} {lo hi : Option Operand} (ho : o.op = .slice t x lo hi none) (hu : P.underlying t = some .string) {vals : List TV} (hv : RTs φ vals ((x :: (lo.toList ++ hi.toList)).map a.eval)) {f : Pos} {out : TV} {wr : Option (Pos × EO)} (hq : (eSubs lo.isSome hi.isSome vals f).run h = some (out, wr)) : OkX P B w0 φ h w o a out wr := by
  unfold eSubs at hq
  split at hq
  · obtain ⟨v1, ws, e1, hr1, hr2⟩ := hv.cons
    simp only [List.map_cons, List.cons.injEq] at e1
    obtain ⟨e1, e2⟩ := e1
    subst e1; subst e2
    obtain ⟨l, m, n, hk, b1, b2, b3⟩ := bnds_inv (mx := none) hq (by simpa using hr2)
    cases n with
    | some n => exact b3.elim
    | none =>
      split at hk
      · rename_i b
        cases hc : (Nat.ble (gD m b.length) b.length && Nat.ble (gD l 0) (gD m b.length)) with
        | false => rw [hc] at hk; cases hk
        | true =>
          rw [hc, cond_true] at hk
          simp only [Bool.and_eq_true, ble_t] at hc
          simp only [retV, Q.run, Option.some.injEq, Prod.mk.injEq] at hk
          obtain ⟨rfl, rfl⟩ := hk
          obtain ⟨q1, q2⟩ := rt_str hr1
          have hb := run_bounds (P := P) w false b.length b.length b1 b2 b3 (Nat.le_refl _) hc.1 hc.2 (by cases m <;> rfl)
          refine ok_ret hI ?_ (mk_str (okStr_drop _ (okStr_take _ q1)))
          have hext : (⟨(b.map UInt8.ofNat).toArray⟩ : ByteArray).extract (gD l 0) (gD m b.length) = ⟨(((b.take (gD m b.length)).drop (gD l 0)).map UInt8.ofNat).toArray⟩ := by
            apply ByteArray.ext
            simp [ByteArray.data_extract, List.drop_take, List.extract_eq_take_drop]
          unfold execOp
          simp only [gD] at hb
          simp only [ho, q2, strV, Instr.sliceAt, Sem.run_bind, run_underlying hu, Result.andThen_ok, Instr.slice, Option.map_none, Option.isSome_none, Bool.false_eq_true, if_false, strV_size]
          simp only [Option.map_none] at hb
          rw [hb]
          simp only [Result.andThen_ok, Sem.run_pure]
          simp only [gD] at hext
          rw [hext]
          rfl
      · cases hk
  · cases hq

theorem Inv.rowS (hI : Inv B w0 φ h w) {k : Pos} {g : Nat} {l : Loc} {e : TypeId} {s : Nat} {el : PT Ch} {len gen : Nat} {fz : Fz} (hk : h k = .row e s el len gen fz) (hl : φ.loc k g = some l) : l.s = s := by
  have ho := hI.obj k
  rw [hk] at ho
  obtain ⟨_, _, _, h2, h3⟩ := ho
  rcases Nat.lt_or_ge gen g with x | x
  · rw [h2 g x] at hl; cases hl
  · obtain ⟨l', q1, ⟨_, q3, _⟩, _⟩ := h3 g x
    rw [q1] at hl
    injection hl with hl
    rw [← hl]
    exact q3
theorem sub_value {k : Pos} {g off s l hh m : Nat} {lc : Loc} (hl : φ.loc k g = some lc) : denP φ (.one (.sl k g (bif Nat.beq l m then off else off + l * s) (hh - l) (some (m - l)))) = some (.slice (if m = l then some ⟨lc.b, off, none⟩ else some ((⟨lc.b, off, none⟩ : Addr).add (l * s))) (hh - l) (m - l)) := by
  show den φ (.sl k g _ _ _) = _
  simp only [den, hl, capD, capF, if_true]
  by_cases e : m = l
  · subst e
    simp [Nat.beq_refl]
  · have : Nat.beq l m = false := by cases hb : Nat.beq l m with | false => rfl | true => exact absurd (beq_t.1 hb).symm e
    rw [this, cond_false, if_neg e, add_at]

theorem ok_subl (hI : Inv B w0 φ h w) {t e : TypeId} {x : Operand} {lo hi mx : Option Operand} (ho : o.op = .slice t x lo hi mx) (hu : P.underlying t = some (.slice e)) (hz : szOf P e ≠ 0) {f : Pos} (hf : h f = .none) {vals : List TV} (hv : RTs φ vals ((x :: (lo.toList ++ hi.toList ++ mx.toList)).map a.eval)) {out : TV} {wr : Option (Pos × EO)} (hq : (eSubl (szOf P e) lo.isSome hi.isSome mx.isSome vals f).run h = some (out, wr)) : OkX P B w0 φ h w o a out wr := by
  unfold eSubl at hq
  split at hq
  · obtain ⟨v1, ws, e1, hr1, hr2⟩ := hv.cons
    simp only [List.map_cons, List.cons.injEq] at e1
    obtain ⟨e1, e2⟩ := e1
    subst e1; subst e2
    obtain ⟨l, m, n, hk, b1, b2, b3⟩ := bnds_inv hq (by simpa using hr2)
    have runs : ∀ (A : Option Addr) (len cap : Nat), a.eval x = .slice A len cap → gD n cap ≤ cap → gD m len ≤ gD n cap → gD l 0 ≤ gD m len → needH m n = true →
        (execOp a.eval o).run P w = .ok (.value (.slice (if gD n cap = gD l 0 then A else A.map (·.add (gD l 0 * szOf P e))) (gD m len - gD l 0) (gD n cap - gD l 0))) w := fun A len cap hx c1 c2 c3 c4 => by
      have hb := run_bounds (P := P) w true len cap b1 b2 b3 c1 c2 c3 c4
      unfold execOp
      simp only [ho, hx, Instr.sliceAt, Sem.run_bind, run_underlying hu, Result.andThen_ok, Instr.slice, hb, run_sizeOf hz, Sem.run_pure]
    unfold sublQ at hk
    split at hk
    · cases hc : (Nat.beq (gD l 0) 0 && Nat.beq (gD m 0) 0 && Nat.beq (gD n 0) 0 && needH m n) with
      | false => rw [hc] at hk; cases hk
      | true =>
        rw [hc, cond_true] at hk
        simp only [Bool.and_eq_true, beq_t] at hc
        obtain ⟨⟨⟨c1, c2⟩, c3⟩, c4⟩ := hc
        simp only [retV, Q.run, Option.some.injEq, Prod.mk.injEq] at hk
        obtain ⟨rfl, rfl⟩ := hk
        have := runs none 0 0 (rt_nils hr1) (by omega) (by omega) (by omega) c4
        rw [c1, c2, c3] at this
        exact ok_ret hI this rfl
    · rename_i k g off len cap
      obtain ⟨lc, hl, z, hcf⟩ := rt_slF hr1
      split at hk
      · rename_i c
        cases hc : (Nat.ble (gD n c) c && Nat.ble (gD m len) (gD n c) && Nat.ble (gD l 0) (gD m len) && needH m n) with
        | false => rw [hc] at hk; cases hk
        | true =>
          rw [hc, cond_true] at hk
          simp only [Bool.and_eq_true, ble_t] at hc
          obtain ⟨⟨⟨c1, c2⟩, c3⟩, c4⟩ := hc
          simp only [subQ, retV, Q.run, Option.some.injEq, Prod.mk.injEq] at hk
          obtain ⟨rfl, rfl⟩ := hk
          have := runs _ _ _ z c1 c2 c3 c4
          refine ok_ret hI this ?_
          have hs := sub_value (s := szOf P e) (off := off) (l := gD l 0) (hh := gD m len) (m := gD n c) hl
          simp only [Option.map_some, capD]
          exact hs
      · split at hk
        · rename_i n'
          split at hk
          · rename_i m'
            cases hc : (Nat.ble n' len && Nat.ble m' n' && Nat.ble (gD l 0) m') with
            | false => rw [hc] at hk; cases hk
            | true =>
              rw [hc, cond_true] at hk
              simp only [Bool.and_eq_true, ble_t] at hc
              obtain ⟨⟨c1, c2⟩, c3⟩ := hc
              simp only [subQ, retV, Q.run, Option.some.injEq, Prod.mk.injEq] at hk
              obtain ⟨rfl, rfl⟩ := hk
              have hC : off / lc.s + len ≤ lc.n := ble_t.1 hcf
              have := runs _ _ _ z (by simp only [gD, capD]; omega) (by simp only [gD]; exact c2) c3 rfl
              refine ok_ret hI this ?_
              have hs := sub_value (s := szOf P e) (off := off) (l := gD l 0) (hh := m') (m := n') hl
              simp only [Option.map_some, gD] at hs ⊢
              exact hs
          · cases hk
        · have hC : off / lc.s + len ≤ lc.n := ble_t.1 hcf
          cases hc : (Nat.ble (gD m len) len && Nat.ble (gD l 0) (gD m len)) with
          | false => rw [hc] at hk; cases hk
          | true =>
            rw [hc, cond_true] at hk
            simp only [Bool.and_eq_true, ble_t] at hc
            obtain ⟨c1, c2⟩ := hc
            have hr := runs _ _ _ z (Nat.le_refl _) (by simp only [gD, capD] at c1 ⊢; omega) c2 (by cases m <;> rfl)
            generalize gD l 0 = L at *
            generalize gD m len = M at *
            simp only [gD, capD, Option.map_some] at hr
            cases hb : Nat.beq L 0 with
            | true =>
              rw [hb, cond_true] at hk
              have hb := beq_t.1 hb
              subst hb
              simp only [retV, Q.run, Option.some.injEq, Prod.mk.injEq] at hk
              obtain ⟨rfl, rfl⟩ := hk
              refine ok_ret hI hr ?_
              show den φ (.sl k g off M none) = _
              simp only [den, hl, capD, capF]
              have hx : Nat.ble (off / lc.s + M) lc.n = true := ble_t.2 (by omega)
              simp [hx, Addr.add]
            | false =>
              rw [hb, cond_false] at hk
              have hb : L ≠ 0 := fun e => by rw [e] at hb; cases hb
              cases hlt : Nat.blt L len with
              | true =>
                rw [hlt, cond_true] at hk
                have hlt := blt_t.1 hlt
                simp only [Q.run] at hk
                split at hk
                · rename_i e' s' el' len' gen' fz' hk'
                  cases hss : Nat.beq (szOf P e) s' with
                  | false => rw [hss] at hk; cases hk
                  | true =>
                    rw [hss, cond_true] at hk
                    have hss := beq_t.1 hss
                    simp only [retV, Q.run, Option.some.injEq, Prod.mk.injEq] at hk
                    obtain ⟨rfl, rfl⟩ := hk
                    have hls : lc.s = szOf P e := by rw [hss]; exact hI.rowS hk' hl
                    refine ok_ret hI hr ?_
                    have hdiv : (off + L * szOf P e) / lc.s = off / lc.s + L := by
                      rw [hls, Nat.add_mul_div_right _ _ (by omega)]
                    show den φ (.sl k g (off + L * szOf P e) (M - L) none) = _
                    simp only [den, hl, capD, capF, hdiv]
                    have hx : Nat.ble (off / lc.s + L + (M - L)) lc.n = true := ble_t.2 (by omega)
                    have hy : ¬ lc.n - off / lc.s = L := by omega
                    simp only [hx, if_true, if_neg hy, add_at, Nat.sub_sub]
                · cases hk
              | false =>
                rw [hlt, cond_false] at hk
                have hlt : ¬ L < len := fun q => by rw [blt_t.2 q] at hlt; cases hlt
                simp only [Q.run, Option.some.injEq, Prod.mk.injEq] at hk
                obtain ⟨rfl, rfl⟩ := hk
                have e0 : M - L = 0 := by omega
                rw [e0] at hr
                have hval : ∃ A, (execOp a.eval o).run P w = .ok (.value (.slice (some A) 0 (lc.n - off / lc.s - L))) w := by
                  by_cases hCL : lc.n - off / lc.s = L
                  · simp only [hCL, if_true] at hr ⊢
                    exact ⟨_, hr⟩
                  · simp only [hCL, if_false] at hr
                    exact ⟨_, hr⟩
                obtain ⟨A, hr⟩ := hval
                have hle := hI.le_addV hf (.slice (some A) 0 (lc.n - off / lc.s - L))
                exact ok_to hr hle (hI.newV hf ⟨(hI.free hf).1, A, _, Gx.addV_self _ _ _⟩) (by show den _ (.emp f) = _; simp only [den, Gx.addV_self])
    · cases hk
  · cases hq

end
end Go.Proofs.YtdjhicbhegaenaaGreatDoor.Clo
namespace Go.Proofs.YtdjhicbhegaenaaGreatDoor.Clo
open Go Go.RowKit

theorem dens_splice {φ : Gx} {cs new : List CV} {vs ns : List Value} {off : Nat} (h1 : dens φ cs = some vs) (h2 : dens φ new = some ns) : dens φ (splice cs off new) = some (vs.take off ++ ns ++ vs.drop (off + ns.length)) := by
  unfold splice
  rw [dens_len h2]
  exact dens_append (dens_append (dens_take off h1) h2) (dens_drop _ h1)

section
variable {P : Program} {B : Nat} {w0 : W0} {φ : Gx} {h : Pos → EO} {w : World} {o : Oper} {a : Act}

theorem fillB_sound {place : Nat → Option (Nat × Nat)} : ∀ {parts : List (Nat × Operand)} {ps : List (Nat × Nat)} {vals : List TV} {cs cs' : List CV} {arr : Array Value}, parts.map (fun p => place p.1) = ps.map some → fillB ps vals cs = some cs' → RTs φ vals (parts.map fun p => a.eval p.2) → dens φ cs = some arr.toList →
    ∃ arr', Instr.fill place arr (parts.map fun p => (p.1, a.eval p.2)) = some arr' ∧ dens φ cs' = some arr'.toList
  | [], [], [], cs, cs', arr, _, hf, _, hd => by
    simp only [fillB, Option.some.injEq] at hf
    subst hf
    exact ⟨arr, rfl, hd⟩
  | (i, x) :: parts, [], _, _, _, _, hp, _, _, _ => by simp at hp
  | [], _ :: _, _, _, _, _, hp, _, _, _ => by simp at hp
  | (i, x) :: parts, (off, s) :: ps, [], cs, cs', arr, hp, hf, hv, hd => by simp [fillB] at hf
  | [], [], _ :: _, _, _, _, _, hf, _, _ => by simp [fillB] at hf
  | (i, x) :: parts, (off, s) :: ps, t :: vals, cs, cs', arr, hp, hf, hv, hd => by
    simp only [List.map_cons, List.cons.injEq] at hp
    obtain ⟨hp1, hp2⟩ := hp
    obtain ⟨v, ws, e, hr, hv2⟩ := hv.cons
    simp only [List.map_cons, List.cons.injEq] at e
    obtain ⟨rfl, rfl⟩ := e
    cases t with
    | unk => simp [fillB] at hf
    | tup l => simp [fillB] at hf
    | pv p =>
      simp only [fillB] at hf
      cases hc : (Nat.beq p.cells.length s && Nat.ble (off + s) cs.length) with
      | false => rw [hc] at hf; cases hf
      | true =>
        rw [hc, cond_true] at hf
        simp only [Bool.and_eq_true, beq_t, ble_t] at hc
        have hd2 := denP_cells hr
        have hsz : (a.eval x).cells.size = s := by rw [← Array.length_toList, dens_len hd2, hc.1]
        have hal : arr.size = cs.length := by rw [← Array.length_toList, dens_len hd]
        have hfit : off + (a.eval x).cells.size ≤ arr.size := by rw [hsz, hal]; exact hc.2
        have hfc := fill_cells off (a.eval x) arr hfit
        have hsp := dens_splice (off := off) hd hd2
        rw [Array.length_toList, ← hfc] at hsp
        obtain ⟨arr', q1, q2⟩ := fillB_sound hp2 hf hv2 hsp
        refine ⟨arr', ?_, q2⟩
        simp only [List.map_cons, Instr.fill, hp1]
        have hno : ¬ (((a.eval x).cells.size ≠ s || off + (a.eval x).cells.size > arr.size) = true) := by simp [hsz]; omega
        rw [if_neg hno]
        exact q1

theorem places_sound {fs : Array Field} : ∀ {parts : List (Nat × Operand)} {ps : List (Nat × Nat)}, placesB P fs parts = some ps → parts.map (fun p => (fs.map fun f => (f.offset, szOf P f.type))[p.1]?) = ps.map some
  | [], ps, h => by simp only [placesB, Option.some.injEq] at h; subst h; rfl
  | (i, x) :: parts, ps, h => by
    simp only [placesB] at h
    split at h
    · rename_i f hf
      split at h
      · rename_i l hl
        simp only [Option.some.injEq] at h
        subst h
        simp only [List.map_cons, places_sound hl, List.cons.injEq, and_true]
        simp [hf]
      · cases h
    · cases h

theorem ok_build (hI : Inv B w0 φ h w) {t : TypeId} {parts : Array (Nat × Operand)} (ho : o.op = .build t parts) {z : PV} (hz : zeroOf P t = some z) {ps : List (Nat × Nat)}
    (hp : (∃ fs, P.underlying t = some (.struct fs) ∧ (fs.toList.all fun f => (P.info? f.type).isSome) = true ∧ placesB P fs parts.toList = some ps) ∨ (∃ n e, P.underlying t = some (.array n e) ∧ szOf P e ≠ 0 ∧ ps = parts.toList.map fun p => (p.1 * szOf P e, szOf P e)))
    {vals : List TV} (hv : RTs φ vals ((parts.toList.map (·.2)).map a.eval)) {f : Pos} {out : TV} {wr : Option (Pos × EO)} (hq : (eBuild z.cells ps vals f).run h = some (out, wr)) : OkX P B w0 φ h w o a out wr := by
  unfold eBuild at hq
  split at hq
  · rename_i cs hcs
    simp only [Q.run, Option.some.injEq, Prod.mk.injEq] at hq
    obtain ⟨rfl, rfl⟩ := hq
    obtain ⟨i, v, h1, h2, h3⟩ := zero_info hz
    have hd := denP_cells (h3 φ)
    have hv' : RTs φ vals (parts.toList.map fun p => a.eval p.2) := by rw [List.map_map] at hv; exact hv
    have hmap : (parts.map fun (i, x) => (i, a.eval x)).toList = parts.toList.map fun p => (p.1, a.eval p.2) := by simp
    rcases hp with ⟨fs, hu, hall, hpl⟩ | ⟨n, e, hu, hse, rfl⟩
    · obtain ⟨arr', q1, q2⟩ := fillB_sound (place := fun i => (fs.map fun f => (f.offset, szOf P f.type))[i]?) (places_sound hpl) hcs hv' hd
      refine ok_ret hI (v := .agg arr') ?_ (by show denP φ (.agg cs) = _; simp only [denP, q2, Array.toArray_toList])
      have hm : ∀ (l : List Field) (w : World), (∀ f ∈ l, ∃ j, P.info? f.type = some j) → (l.mapM (fun f => (do pure (f.offset, ← sizeOf f.type) : Sem (Nat × Nat)))).run P w = .ok (l.map fun f => (f.offset, szOf P f.type)) w := by
        intro l
        induction l with
        | nil => intro w _; simp
        | cons f l ih =>
          intro w hall
          obtain ⟨j, hj⟩ := hall f (by simp)
          have h1 : (do pure (f.offset, ← sizeOf f.type) : Sem (Nat × Nat)).run P w = .ok (f.offset, szOf P f.type) w := by simp [sizeOf, typeInfo, hj, szOf]
          rw [List.mapM_cons, Sem.run_bind, h1, Result.andThen_ok, Sem.run_bind, ih w (fun g hg => hall g (by simp [hg])), Result.andThen_ok]
          rfl
      have hall' : ∀ f ∈ fs.toList, ∃ j, P.info? f.type = some j := fun f hf => Option.isSome_iff_exists.1 (List.all_eq_true.1 hall f hf)
      have hplaces : (fs.mapM fun f => (do pure (f.offset, ← sizeOf f.type) : Sem (Nat × Nat))).run P w = .ok (fs.map fun f => (f.offset, szOf P f.type)) w := by
        rw [Array.mapM_eq_mapM_toList, Sem.run_map, hm _ _ hall']
        simp [Result.andThen, ← Array.toList_map]
      unfold execOp
      simp only [ho, Instr.build, zeroValue, typeInfo, Sem.run_bind, run_program, h1, h2, Sem.run_pure, Result.andThen_ok, run_underlying hu, hplaces, hmap, q1]
    · have hpl : parts.toList.map (fun p => (fun i => some (i * szOf P e, szOf P e)) p.1) = (parts.toList.map fun p => (p.1 * szOf P e, szOf P e)).map some := by simp
      obtain ⟨arr', q1, q2⟩ := fillB_sound (place := fun i => some (i * szOf P e, szOf P e)) hpl hcs hv' hd
      refine ok_ret hI (v := .agg arr') ?_ (by show denP φ (.agg cs) = _; simp only [denP, q2, Array.toArray_toList])
      unfold execOp
      simp only [ho, Instr.build, zeroValue, typeInfo, Sem.run_bind, run_program, h1, h2, Sem.run_pure, Result.andThen_ok, run_underlying hu, run_sizeOf hse, hmap, q1]
  · cases hq

theorem ok_suba (hI : Inv B w0 φ h w) {t e : TypeId} {N : Nat} {x : Operand} {lo hi mx : Option Operand} (ho : o.op = .slice t x lo hi mx) (hu : P.underlying t = some (.array N e)) (hz : szOf P e ≠ 0) {f : Pos} {vals : List TV} (hv : RTs φ vals ((x :: (lo.toList ++ hi.toList ++ mx.toList)).map a.eval)) {out : TV} {wr : Option (Pos × EO)} (hq : (eSuba N (szOf P e) lo.isSome hi.isSome mx.isSome vals f).run h = some (out, wr)) : OkX P B w0 φ h w o a out wr := by
  unfold eSuba at hq
  split at hq
  · obtain ⟨v1, ws, e1, hr1, hr2⟩ := hv.cons
    simp only [List.map_cons, List.cons.injEq] at e1
    obtain ⟨e1, e2⟩ := e1
    subst e1; subst e2
    obtain ⟨l, m, n, hk, b1, b2, b3⟩ := bnds_inv hq (by simpa using hr2)
    split at hk
    · rename_i k g off
      cases hc : (Nat.ble (gD n N) N && Nat.ble (gD m N) (gD n N) && Nat.ble (gD l 0) (gD m N) && needH m n) with
      | false => rw [hc] at hk; cases hk
      | true =>
        rw [hc, cond_true] at hk
        simp only [Bool.and_eq_true, ble_t] at hc
        obtain ⟨⟨⟨c1, c2⟩, c3⟩, c4⟩ := hc
        simp only [subQ, retV, Q.run, Option.some.injEq, Prod.mk.injEq] at hk
        obtain ⟨rfl, rfl⟩ := hk
        obtain ⟨lc, hl, z⟩ := rt_ptr hr1
        have hb := run_bounds (P := P) w false N N b1 b2 b3 c1 c2 c3 c4
        have hs := sub_value (s := szOf P e) (off := off) (l := gD l 0) (hh := gD m N) (m := gD n N) hl
        refine ok_ret hI (v := .slice (if gD n N = gD l 0 then some ⟨lc.b, off, none⟩ else some ((⟨lc.b, off, none⟩ : Addr).add (gD l 0 * szOf P e))) (gD m N - gD l 0) (gD n N - gD l 0)) ?_ hs
        unfold execOp
        simp only [ho, z, Instr.sliceAt, Sem.run_bind, run_underlying hu, Result.andThen_ok, Instr.sureAddr, Sem.run_pure, hb, run_sizeOf hz]
        by_cases he : gD n N = gD l 0
        · simp only [he, if_true]
        · simp only [if_neg he]
    · cases hk
  · cases hq

theorem ok_mkm (hI : Inv B w0 φ h w) {t : TypeId} {r : Option Operand} (ho : o.op = .makeMap t r) {k e : TypeId} (hu : P.underlying t = some (.map k e)) {f : Pos} (hf : h f = .none) {vals : List TV} (hv : RTs φ vals (r.toList.map a.eval)) {out : TV} {wr : Option (Pos × EO)} (hq : (eMkm vals f).run h = some (out, wr)) : OkX P B w0 φ h w o a out wr := by
  have key : (execOp a.eval o).run P w = .ok (.value (.map (some w.heap.size))) (w.alloc (.map #[] 0)) → OkX P B w0 φ h w o a (.pv (.one (.mp f))) (some (f, .map [] 0)) := fun hrun => by
    refine ok_to hrun (hI.le_add hf ⟨w.heap.size, 0, 0⟩) (hI.new hf rfl ⟨fun g hg => ?_, ⟨w.heap.size, 0, 0⟩, #[], Gx.add_self _ _ _, hI.size, heap_alloc_new w _, rfl, fun i e he => by simp at he⟩) (by show den _ (.mp f) = _; simp only [den, Gx.add_self])
    simp only [Gx.add, if_true]
    rw [if_neg (by omega)]
  unfold eMkm at hq
  split at hq
  · simp only [Q.run, Option.some.injEq, Prod.mk.injEq] at hq
    obtain ⟨rfl, rfl⟩ := hq
    refine key ?_
    cases r with
    | none => unfold execOp; simp [ho, Instr.makeMap]
    | some x => simp [RTs] at hv
  · simp only [Q.run, Option.some.injEq, Prod.mk.injEq] at hq
    obtain ⟨rfl, rfl⟩ := hq
    refine key ?_
    cases r with
    | none => simp [RTs] at hv
    | some x =>
      have e1 := rt_int (hv : RTs φ _ [a.eval x]).1
      unfold execOp
      simp [ho, Instr.makeMap, run_underlying hu, asInt, asIntOf, e1]
  · cases hq

end
end Go.Proofs.YtdjhicbhegaenaaGreatDoor.Clo
namespace Go.Proofs.YtdjhicbhegaenaaGreatDoor.Clo
open Go Go.RowKit

section
variable {P : Program} {B : Nat} {w0 : W0} {φ : Gx} {h : Pos → EO} {w : World} {o : Oper} {a : Act}

theorem upd_upd (f : Pos → EO) (k : Pos) (x y : EO) : upd (upd f k x) k y = upd f k y := by
  funext q
  simp only [upd]
  split <;> rfl
theorem setRow_setRow (w : World) (g : Nat) (x y : Array Value) : (w.setRow g x).setRow g y = w.setRow g y := by
  unfold World.setRow
  simp only [World.mk.injEq, and_true]
  apply Array.ext_getElem?
  intro i
  simp only [Array.getElem?_modify]
  by_cases e : g = i
  · simp only [e, if_true, Option.map_map]
    congr 1
    funext ob
    cases ob <;> rfl
  · simp [e]

/-- Several elements are written into a row. -/
theorem Inv.wrs {k : Pos} {g s : Nat} {l : Loc} : ∀ {x : List CV} {r : List (List CV)} {h : Pos → EO} {w : World} {off : Nat} {o' : EO} {news : List Value}, Inv B w0 φ h w → wrRows g s (x :: r) (h k) off = some o' → (∀ a ∈ x :: r, a.length = s) → φ.loc k g = some l → dens φ (x :: r).flatten = some news →
    ∃ arr e, w.heap[l.b]? = some (.cells arr e (0, 0)) ∧ off + news.length ≤ arr.size ∧ Inv B w0 φ (upd h k o') (w.setRow l.b (arr.toList.take off ++ news ++ arr.toList.drop (off + news.length)).toArray)
  | x, [], h, w, off, o', news, hI, hr, hs, hl, hd => by
    simp only [wrRows] at hr
    split at hr
    · rename_i o1 h1
      simp only [Option.some.injEq] at hr
      subst hr
      have hd : dens φ x = some news := by simpa using hd
      exact hI.wr h1 hl hd
    · cases hr
  | x, y :: r, h, w, off, o', news, hI, hr, hs, hl, hd => by
    rw [wrRows] at hr
    split at hr
    · rename_i o1 h1
      rw [List.flatten_cons] at hd
      have hxs := hs x (by simp)
      obtain ⟨ns1, hn1⟩ : ∃ vs, dens φ x = some vs := by
        have := dens_take x.length hd
        rw [List.take_left] at this
        exact ⟨_, this⟩
      obtain ⟨ns2, hn2⟩ : ∃ vs, dens φ (y :: r).flatten = some vs := by
        have := dens_drop x.length hd
        rw [List.drop_left] at this
        exact ⟨_, this⟩
      have hnews : news = ns1 ++ ns2 := by
        have := dens_append hn1 hn2
        rw [hd] at this
        exact Option.some.inj this
      have hl1 : ns1.length = s := by rw [dens_len hn1, hxs]
      obtain ⟨arr, e, q1, q2, q3⟩ := hI.wr h1 hl hn1
      have hk1 : (upd h k o1) k = o1 := upd_self _ _ _
      obtain ⟨arr2, e2, p1, p2, p3⟩ := Inv.wrs (h := upd h k o1) q3 (by rw [hk1]; exact hr) (fun a ha => hs a (by simp only [List.mem_cons] at ha ⊢; exact .inr ha)) hl hn2
      rw [setRow_heap w l.b arr _ e _ q1] at p1
      injection p1 with p1
      injection p1 with p1 _ _
      have hal : arr2.toList = arr.toList.take off ++ ns1 ++ arr.toList.drop (off + ns1.length) := by rw [← p1]
      have hlen : arr2.size = arr.size := by
        rw [← Array.length_toList, hal]
        simp
        omega
      refine ⟨arr, e, q1, by rw [hnews, List.length_append]; omega, ?_⟩
      rw [upd_upd] at p3
      rw [setRow_setRow] at p3
      have harr : arr2.toList.take (off + s) ++ ns2 ++ arr2.toList.drop (off + s + ns2.length) = arr.toList.take off ++ news ++ arr.toList.drop (off + news.length) := by
        have e1 : arr2.toList.take (off + s) = arr.toList.take off ++ ns1 := by
          rw [hal, List.take_left']
          rw [List.length_append, List.length_take, Array.length_toList, hl1]
          omega
        have e2 : arr2.toList.drop (off + s + ns2.length) = arr.toList.drop (off + news.length) := by
          rw [hal, ← List.drop_drop, List.drop_left', List.drop_drop]
          · congr 1
            rw [hnews, List.length_append, hl1]
            omega
          · rw [List.length_append, List.length_take, Array.length_toList, hl1]
            omega
        rw [e1, e2, hnews]
        simp
      rw [harr] at p3
      exact p3
    · cases hr

/-- What an append appends. -/
theorem srcQ_inv (hI : Inv B w0 φ h w) {s : Nat} {str : Bool} {x : TV} {v : Value} {k : List (List CV) → Q} {res : TV × Option (Pos × EO)} (hq : (srcQ s str x k).run h = some res) (hr : RT φ x v) {tx : TypeId} (ht : (str = false ∧ ∃ e, P.underlying tx = some (.slice e)) ∨ (str = true ∧ P.underlying tx = some .string ∧ s = 1)) :
    ∃ l news, (k l).run h = some res ∧ (∀ a ∈ l, a.length = s) ∧ dens φ l.flatten = some news ∧ Go.Src P s tx v l.length news w := by
  unfold srcQ at hq
  split at hq
  · rename_i j g off n cap
    rcases ht with ⟨rfl, e, hu⟩ | ⟨rfl, _, _⟩
    · simp only [cond_false, Q.run] at hq
      split at hq
      · rename_i l hl
        obtain ⟨lc, l1, z⟩ := rt_sl hr
        obtain ⟨q1, q2, vs, q3, q4⟩ := hI.rds l1 hl
        refine ⟨l, vs, hq, q2, q3, ?_⟩
        rw [z, q1]
        exact Go.Src.ofSlice w hu _ n _ vs (by rw [dens_len q3, flat_len q2, q1]) q4 (dens_one q3)
      · cases hq
    · cases hq
  · rcases ht with ⟨rfl, e, hu⟩ | ⟨rfl, _, _⟩
    · refine ⟨[], [], hq, (fun _ q => by cases q), rfl, ?_⟩
      rw [rt_nils hr]
      exact Go.Src.ofNil w hu 0
    · cases hq
  · rename_i kk
    rcases ht with ⟨rfl, e, hu⟩ | ⟨rfl, _, _⟩
    · refine ⟨[], [], hq, (fun _ q => by cases q), rfl, ?_⟩
      obtain ⟨A, c, z⟩ := rt_emp hr
      rw [z]
      exact Go.Src.ofSlice w hu A 0 c [] (by simp) (fun j u q => by simp at q) (fun u q => by cases q)
    · cases hq
  · rename_i b
    rcases ht with ⟨rfl, _⟩ | ⟨rfl, hu, rfl⟩
    · cases hq
    · obtain ⟨h1, z⟩ := rt_str hr
      have hd : ∀ b : List Nat, okStr b = true → dens φ (b.map fun c => [CV.int .u8 (Int.ofNat c)]).flatten = some (byteCells ⟨(b.map UInt8.ofNat).toArray⟩) := by
        intro b
        induction b with
        | nil => intro _; rfl
        | cons c b ih =>
          intro hb
          obtain ⟨b1, b2⟩ := okStr_cons hb
          have := ih b2
          rw [List.map_cons, List.flatten_cons]
          have e1 : byteCells ⟨((c :: b).map UInt8.ofNat).toArray⟩ = [Value.int .u8 (Int.ofNat c)] ++ byteCells ⟨(b.map UInt8.ofNat).toArray⟩ := by
            unfold byteCells
            simp
            omega
          rw [e1]
          exact dens_append rfl this
      refine ⟨b.map fun c => [.int .u8 (Int.ofNat c)], _, hq, fun a ha => ?_, hd b h1, ?_⟩
      · obtain ⟨c, _, rfl⟩ := List.mem_map.1 ha
        rfl
      · rw [z, List.length_map]
        have := Go.Src.ofString (P := P) w hu ⟨(b.map UInt8.ofNat).toArray⟩
        rw [strV_size] at this
        exact this
  · cases hq

/-- An append in place. -/
theorem run_append_in {t tx ty e : TypeId} {i : TypeInfo} (ht : P.underlying t = some (.slice e)) (hi : P.info? e = some i) {b off sLen sCap : Nat} {x : Value} {n : Nat} {news : List Value} (hs : Go.Src P i.size tx x n news w) (hroom : sLen + n ≤ sCap) {arr : Array Value} {e' : TypeId} (hb : w.heap[b]? = some (.cells arr e' (0, 0))) (hfit : off + sLen * i.size + news.length ≤ arr.size) :
    (Builtin.append_ #[t, tx] ty #[.slice (some ⟨b, off, none⟩) sLen sCap, x]).run P w = .ok (.slice (some ⟨b, off, none⟩) (sLen + n) sCap) (w.setRow b (arr.toList.take (off + sLen * i.size) ++ news ++ arr.toList.drop (off + sLen * i.size + news.length)).toArray) := by
  have hst := run_storeCells_at P b (off + sLen * i.size) e' news 0 arr w hb (by simpa using hfit) hs.one
  simp only [Nat.add_zero] at hst
  rcases hs.kind with ⟨e', hk⟩ | hk <;> simp [Builtin.append_, run_underlying ht, run_underlying hk, sizeOf, typeInfo, hi, hs.len, hroom, hs.cells, Addr.add_lit, hst]

end
end Go.Proofs.YtdjhicbhegaenaaGreatDoor.Clo
namespace Go.Proofs.YtdjhicbhegaenaaGreatDoor.Clo
open Go Go.RowKit

section
variable {P : Program} {B : Nat} {w0 : W0} {φ : Gx} {h : Pos → EO} {w : World} {o : Oper} {a : Act}

theorem exec_append {cl : Call} {s x : Operand} {t tx : TypeId} (ho : o.op = .call cl) (hcl : cl.callee = .builtin .append) (hargs : cl.args = #[s, x]) (hty : cl.argTypes = #[t, tx]) {v : Value} {w' : World} (hrun : (Builtin.append_ #[t, tx] o.type #[a.eval s, a.eval x]).run P w = .ok v w') :
    (execOp a.eval o).run P w = .ok (.value v) w' := by
  unfold execOp
  simp [ho, resolve, hcl, hargs, hty, invoke, builtin, hrun]

theorem zeros_size (z : Array Value) (n : Nat) : (Builtin.zeroCells z n).size = n * z.size := by simp [Builtin.zeroCells]

/-- A ghost with one turn more of a row. -/
def Gx.turn (φ : Gx) (k : Pos) (g : Nat) (l : Loc) : Gx := ⟨fun q m => if q = k ∧ m = g then some l else φ.loc q m, φ.val, φ.mu⟩

theorem Gx.turn_self (φ : Gx) (k : Pos) (g : Nat) (l : Loc) : (φ.turn k g l).loc k g = some l := by simp [Gx.turn]
theorem Gx.turn_ne (φ : Gx) {k : Pos} {g m : Nat} (l : Loc) (hm : m ≠ g) : (φ.turn k g l).loc k m = φ.loc k m := by simp [Gx.turn, hm]

/-- A row with one turn more. -/
theorem Inv.turnUp (hI : Inv B w0 φ h w) {k : Pos} {e : TypeId} {s : Nat} {el : PT Ch} {len g n : Nat} (hrow : h k = .row e s el len g .no) {lc : Loc} (hl : φ.loc k g = some lc) (hn : n ≤ len) {l : List (List CV)} {news : List Value} (hb : n + l.length ≤ 4294967290)
    (hall : ∀ a ∈ l, a.length = s) (hd : dens φ l.flatten = some news) {w' : World} {l' : Loc} {arr' : Array Value} (hls : l'.s = s) (hB : B ≤ l'.b) (harr' : w'.heap[l'.b]? = some (.cells arr' e (0, 0))) (hsz : arr'.size = l'.n * s) (hN : n + l.length ≤ l'.n)
    (hold : ∀ j, j < n * s → ∀ arr e fr, w.heap[lc.b]? = some (.cells arr e fr) → arr'[j]? = arr[j]?) (hnew : ∀ (j : Nat) (u : Value), news[j]? = some u → arr'[n * s + j]? = some u)
    (hcase : l'.b = lc.b ∨ w.heap.size ≤ l'.b) (hsame : l'.b = lc.b → ∀ arr e fr, w.heap[lc.b]? = some (.cells arr e fr) → arr'.size = arr.size)
    (hw : ∀ b, b < w.heap.size → b ≠ l'.b → w'.heap[b]? = w.heap[b]?) (hos : w'.os = w.os) (htp : w'.tape = w.tape) (hou : w'.output = w.output) (hws : w.heap.size ≤ w'.heap.size) (hdr : w.drawn ≤ w'.drawn) :
    φ.le (φ.turn k (g + 1) l') ∧ Inv B w0 (φ.turn k (g + 1) l') (upd h k (.row e s (addRows (g + 1) l el n) (n + l.length) (g + 1) .no)) w' := by
  have hob := hI.obj k
  rw [hrow] at hob
  obtain ⟨h0, h1, hmm, h2, h3⟩ := hob
  have hle : φ.le (φ.turn k (g + 1) l') := ⟨fun q m x hx => by
    by_cases e : q = k ∧ m = g + 1
    · obtain ⟨rfl, rfl⟩ := e
      rw [h2 _ (by omega)] at hx; cases hx
    · simp only [Gx.turn, if_neg e]; exact hx, fun _ _ hv => hv, fun _ _ hv => hv⟩
  have hget := fun j => addRows_get (m := g + 1) (l := l) (el := el) (i := n) (by omega) j
  have hin : ∀ {i j : Nat}, i < n → j < s → i * s + j < n * s := fun {i j} hi hj => by
    have h5 : (i + 1) * s ≤ n * s := Nat.mul_le_mul_right s hi
    have h6 : (i + 1) * s = i * s + s := Nat.succ_mul _ _
    omega
  refine ⟨hle, hI.turn hle (fun q hq => ⟨fun m => by simp [Gx.turn, hq], rfl, rfl⟩) (fun m x hx => ?_) (fun b hb hne => hw b hb fun eb => ?_) (fun m x hx ob hb hst => ?_) hos htp hou hws hdr ⟨h0, by omega, fun i hi => ?_, fun m hm => ?_, fun m hm => ?_⟩⟩
  · by_cases em : m = g + 1
    · subst em
      rw [Gx.turn_self] at hx
      injection hx with hx
      subst hx
      rcases hcase with q | q
      · exact .inl ⟨g, lc, hl, q.symm⟩
      · exact .inr q
    · rw [Gx.turn_ne _ _ em] at hx
      exact .inl ⟨m, x, hx, rfl⟩
  · rcases hcase with q | q
    · exact hne g lc hl (by rw [← q]; exact eb.symm)
    · omega
  · rcases Nat.lt_or_ge g m with hgt | hle'
    · rw [h2 m hgt] at hx; cases hx
    · obtain ⟨l2, y1, ⟨y2, y3, arr2, fr2, y4, _⟩, _⟩ := h3 m hle'
      rw [y1] at hx
      injection hx with hx
      subst hx
      rw [y4] at hb
      injection hb with hb
      subst hb
      cases hst
  · rw [hget]
    split
    · exact Nat.le_refl _
    · have := hmm i (by omega)
      omega
  · rw [Gx.turn_ne _ _ (by omega)]
    exact h2 m (by omega)
  · by_cases em : m = g + 1
    · subst em
      refine ⟨l', Gx.turn_self _ _ _ _, ⟨hB, hls, arr', (0, 0), harr', hsz, rfl, fun i hi _ => ⟨by omega, ?_⟩⟩, fun _ => hN⟩
      rw [hget]
      by_cases hi2 : n ≤ i ∧ i < n + l.length
      · rw [dif_pos hi2]
        have hmem : l[i - n]'(by omega) ∈ l := List.getElem_mem _
        refine ⟨hall _ hmem, fun j c hj => ?_⟩
        have hj : (l[i - n]'(by omega))[j]? = some c := hj
        obtain ⟨v, z1, z2⟩ := dens_get hd (flat_get hall (i := i - n) (List.getElem?_eq_getElem (by omega)) hj)
        refine ⟨v, ?_, den_mono hle z2⟩
        have := hnew _ _ z1
        rw [← Nat.add_assoc, ← Nat.add_mul, show n + (i - n) = i by omega] at this
        exact this
      · rw [dif_neg hi2]
        obtain ⟨l2, y1, ⟨y2, y3, arr2, fr2, y4, y5, y6, y7⟩, y8⟩ := h3 g (Nat.le_refl _)
        rw [hl] at y1
        injection y1 with y1
        subst y1
        obtain ⟨x1, x2, x3⟩ := y7 i (by omega) (hmm i (by omega))
        refine ⟨x2, fun j c hj => ?_⟩
        obtain ⟨v, z1, z2⟩ := x3 j c hj
        have hjs := (List.getElem?_eq_some_iff.1 hj).1
        refine ⟨v, ?_, den_mono hle z2⟩
        rw [hold _ (hin (by omega) (by omega)) arr2 e fr2 y4]
        exact z1
    · obtain ⟨l2, y1, ⟨y2, y3, arr2, fr2, y4, y5, y6, y7⟩, y8⟩ := h3 m (by omega)
      refine ⟨l2, by rw [Gx.turn_ne _ _ em]; exact y1, ?_, fun hx => absurd hx em⟩
      have hlt := hI.lt y1
      by_cases hbb : l2.b = l'.b
      · have hlc : l'.b = lc.b := by
          rcases hcase with q | q
          · exact q
          · omega
        have y4' : w.heap[lc.b]? = some (.cells arr2 e fr2) := by rw [← hlc, ← hbb]; exact y4
        refine ⟨y2, y3, arr', (0, 0), by rw [hbb]; exact harr', by rw [hsame hlc arr2 e fr2 y4']; exact y5, rfl, fun i hi hmi => ?_⟩
        rw [hget] at hmi ⊢
        by_cases hi2 : n ≤ i ∧ i < n + l.length
        · rw [dif_pos hi2] at hmi
          simp only at hmi
          omega
        · rw [dif_neg hi2] at hmi ⊢
          obtain ⟨x1, x2, x3⟩ := y7 i (by omega) hmi
          refine ⟨x1, x2, fun j c hj => ?_⟩
          obtain ⟨v, z1, z2⟩ := x3 j c hj
          have hjs := (List.getElem?_eq_some_iff.1 hj).1
          refine ⟨v, ?_, den_mono hle z2⟩
          rw [hold _ (hin (by omega) (by omega)) arr2 e fr2 y4']
          exact z1
      · refine ⟨y2, y3, arr2, fr2, by rw [hw _ hlt hbb]; exact y4, y5, y6, fun i hi hmi => ?_⟩
        rw [hget] at hmi ⊢
        by_cases hi2 : n ≤ i ∧ i < n + l.length
        · rw [dif_pos hi2] at hmi
          simp only at hmi
          omega
        · rw [dif_neg hi2] at hmi ⊢
          obtain ⟨x1, x2⟩ := y7 i (by omega) hmi
          exact ⟨x1, x2.mono hle⟩

theorem grow_room {n bytes : Nat} (h : n * bytes ≤ 140737488355328) {old : Nat} (ho : old < n) : Builtin.nextslicecap n old * bytes ≤ 281474976710656 := growslice_fits ho h

theorem Inv.drw (hI : Inv B w0 φ h w) : Inv B w0 φ h w.drew := hI.drew

/-- Onto no row, or one that is left: a new row. -/
theorem app_new (hI : Inv B w0 φ h w) {f : Pos} (hf : h f = .none) {e : TypeId} {z : PV} (hz : zeroOf P e = some z) (hzs : z.cells.length = szOf P e) (hs0 : szOf P e ≠ 0) {old l : List (List CV)} {olds news : List Value} {N : Nat} (hold : ∀ a ∈ old, a.length = szOf P e) (hl : ∀ a ∈ l, a.length = szOf P e) (hd1 : dens φ old.flatten = some olds) (hd2 : dens φ l.flatten = some news)
    (hb : old.length + l.length ≤ 4294967290) (hN : old.length + l.length ≤ N) :
    ∃ i v, P.info? e = some i ∧ i.zero = some v ∧ i.size = szOf P e ∧ i.bytes = byOf P e ∧
      φ.le (φ.add f ⟨w.heap.size, N, szOf P e⟩) ∧ Inv B w0 (φ.add f ⟨w.heap.size, N, szOf P e⟩) (upd h f (newRow e (szOf P e) (old ++ l) (old.length + l.length))) (w.drew.alloc (.cells ((olds ++ news).toArray ++ Builtin.zeroCells v.cells (N - (old.length + l.length))) e)) ∧
      RT (φ.add f ⟨w.heap.size, N, szOf P e⟩) (.pv (.one (.sl f 0 0 (old.length + l.length) none))) (.slice (some ⟨w.heap.size, 0, none⟩) (old.length + l.length) N) := by
  obtain ⟨i, v, h1, h2, h3⟩ := zero_info hz
  have hvs : v.cells.size = szOf P e := by rw [← Array.length_toList, dens_len (denP_cells (h3 φ)), hzs]
  have hall : ∀ a ∈ old ++ l, a.length = szOf P e := fun a ha => by
    rcases List.mem_append.1 ha with q | q
    · exact hold a q
    · exact hl a q
  have hfl : dens φ (old ++ l).flatten = some (olds ++ news) := by rw [List.flatten_append]; exact dens_append hd1 hd2
  have hlen : (olds ++ news).length = (old.length + l.length) * szOf P e := by rw [dens_len hfl, flat_len hall, List.length_append]
  obtain ⟨q1, q2⟩ := hI.drw.newR hf (e := e) (s := szOf P e) (N := N) (l := old ++ l) (vs := olds ++ news) (arr := (olds ++ news).toArray ++ Builtin.zeroCells v.cells (N - (old.length + l.length))) (fr := (0, 0)) (fz := .no) (by omega) hall hfl
    (fun j u hu => by
      have hj := (List.getElem?_eq_some_iff.1 hu).1
      rw [Array.getElem?_append_left (by simpa using hj)]
      simpa using hu) (by
      rw [Array.size_append, zeros_size, hvs, List.size_toArray, hlen, ← Nat.add_mul]
      congr 1
      omega) (by rw [List.length_append]; exact hN) (by rw [List.length_append]; omega) rfl
  rw [List.length_append] at q2
  refine ⟨i, v, h1, h2, by simp [szOf, h1], by simp [byOf, h1], q1, q2, ?_⟩
  show den _ (.sl f 0 0 _ none) = _
  have hc : capF none (old.length + l.length) N 0 = true := by
    simp only [capF, Nat.zero_add]
    exact ble_t.2 hN
  simp only [den, Gx.add_self, Nat.zero_div, hc, if_true, capD, Nat.sub_zero]

theorem ok_app (hI : Inv B w0 φ h w) {cl : Call} {s x : Operand} {t tx e : TypeId} {str : Bool} (ho : o.op = .call cl) (hcl : cl.callee = .builtin .append) (hargs : cl.args = #[s, x]) (hty : cl.argTypes = #[t, tx]) (hu : P.underlying t = some (.slice e)) {z : PV} (hz : zeroOf P e = some z) (hzs : z.cells.length = szOf P e) (hs0 : szOf P e ≠ 0)
    (ht : (str = false ∧ ∃ e, P.underlying tx = some (.slice e)) ∨ (str = true ∧ P.underlying tx = some .string ∧ szOf P e = 1)) {f : Pos} (hf : h f = .none) {vals : List TV} (hv : RTs φ vals [a.eval s, a.eval x]) {out : TV} {wr : Option (Pos × EO)} (hq : (eApp e (szOf P e) (byOf P e) str vals f).run h = some (out, wr)) : OkX P B w0 φ h w o a out wr := by
  obtain ⟨i, zv, hi, hiz, _⟩ := zero_info hz
  have his : i.size = szOf P e := by simp [szOf, hi]
  have hib : i.bytes = byOf P e := by simp [byOf, hi]
  unfold eApp at hq
  split at hq
  · obtain ⟨v1, ws, e1, hr1, hr2⟩ := hv.cons
    obtain ⟨v2, e2, hr3⟩ := hr2.one
    subst e2
    simp only [List.cons.injEq, and_true] at e1
    obtain ⟨e1, e2⟩ := e1
    subst e1; subst e2
    obtain ⟨l, news, hk, hall, hd, hsrc⟩ := srcQ_inv hI hq hr3 ht
    have hsrc' : Go.Src P i.size tx (a.eval x) l.length news w := by rw [his]; exact hsrc
    unfold appQ at hk
    split at hk
    · -- onto nil
      have ev := rt_nils hr1
      split at hk
      · simp only [retV, Q.run, Option.some.injEq, Prod.mk.injEq] at hk
        obtain ⟨rfl, rfl⟩ := hk
        refine ok_ret hI (v := .slice none 0 0) (exec_append ho hcl hargs hty ?_) rfl
        rw [ev]
        have hnn : news = [] := List.eq_nil_of_length_eq_zero (by rw [hsrc.newsLen]; simp)
        subst hnn
        have g1 := hsrc'.len
        have g2 := hsrc'.cells
        simp only [List.length_nil] at g1 g2
        rcases hsrc'.kind with ⟨e', hk⟩ | hk <;> simp [Builtin.append_, run_underlying hu, run_underlying hk, sizeOf, typeInfo, hi, g1, g2]
      · rename_i hne
        cases hc : (Nat.ble (l.length * byOf P e) 140737488355328 && sizedOk (szOf P e) l && Nat.ble l.length 4294967290) with
        | false => rw [hc] at hk; cases hk
        | true =>
          rw [hc, cond_true] at hk
          simp only [Bool.and_eq_true, ble_t] at hc
          obtain ⟨⟨c1, c2⟩, c3⟩ := hc
          simp only [Q.run, Option.some.injEq, Prod.mk.injEq] at hk
          obtain ⟨rfl, rfl⟩ := hk
          have hpos : 0 < l.length := by
            cases l with
            | nil => exact absurd rfl hne
            | cons _ _ => simp
          have hcap := grownCap_ge w l.length 0 e
          obtain ⟨i', v', y1, y2, y3, y4, y5, y6, y7⟩ := app_new (P := P) hI hf hz hzs hs0 (old := []) (l := l) (olds := []) (news := news) (N := grownCap w l.length 0 e) (fun _ q => by cases q) hall rfl hd (by simpa using c3) (by simpa using hcap)
          simp only [List.length_nil, Nat.zero_add, List.nil_append] at y6 y7
          refine ok_to (exec_append ho hcl hargs hty ?_) y5 y6 y7
          rw [ev]
          have := run_append_grow_src (P := P) w t tx o.type e i' v' hu y1 y2 none 0 0 [] (run_firstCells_none w.drew i'.size 0 0 0) (a.eval x) l.length news (by rw [y3]; exact hsrc) (by omega) (by omega) (by rw [y4]; simpa using grow_room c1 (old := 0) hpos)
          simpa using this
    · rename_i k g off n cap
      obtain ⟨lc, hl, ev, hcf⟩ := rt_slF hr1
      split at hk
      · have hroom : n ≤ capD cap lc.n (off / lc.s) ∧ out = .pv (.one (.sl k g off n cap)) ∧ wr = none := by
          cases cap with
          | some c =>
            simp only at hk
            cases hc : Nat.ble n c with
            | false => rw [hc] at hk; cases hk
            | true =>
              rw [hc, cond_true] at hk
              simp only [Q.run, Option.some.injEq, Prod.mk.injEq] at hk
              exact ⟨ble_t.1 hc, hk.1.symm, hk.2.symm⟩
          | none =>
            simp only [cond_true, Q.run, Option.some.injEq, Prod.mk.injEq] at hk
            refine ⟨?_, hk.1.symm, hk.2.symm⟩
            have := ble_t.1 hcf
            simp only [capD]
            omega
        obtain ⟨hroom, rfl, rfl⟩ := hroom
        refine ok_ret hI (exec_append ho hcl hargs hty ?_) hr1
        rw [ev]
        have hnn : news = [] := List.eq_nil_of_length_eq_zero (by rw [hsrc.newsLen]; simp)
        subst hnn
        have g1 := hsrc'.len
        have g2 := hsrc'.cells
        simp only [List.length_nil] at g1 g2
        rcases hsrc'.kind with ⟨e', hk⟩ | hk <;> simp [Builtin.append_, run_underlying hu, run_underlying hk, sizeOf, typeInfo, hi, g1, g2, hroom, storeCells]
      · rename_i hne
        have hpos : 0 < l.length := by
          cases l with
          | nil => exact absurd rfl hne
          | cons _ _ => simp
        simp only [Q.run] at hk
        -- a write in place
        have inplace : ∀ o', wrRows g (szOf P e) l (h k) (off + n * szOf P e) = some o' → n + l.length ≤ capD cap lc.n (off / lc.s) → RT φ (.pv (.one (.sl k g off (n + l.length) cap))) (.slice (some ⟨lc.b, off, none⟩) (n + l.length) (capD cap lc.n (off / lc.s))) → OkX P B w0 φ h w o a (.pv (.one (.sl k g off (n + l.length) cap))) (some (k, o')) := fun o' hw hroom hrt => by
          cases l with
          | nil => exact absurd rfl hne
          | cons x0 r0 =>
            obtain ⟨arr, e', z1, z2, z3⟩ := hI.wrs hw hall hl hd
            refine ok_to (exec_append ho hcl hargs hty ?_) (Gx.le.refl φ) z3 hrt (wrRows_noRes hw)
            rw [ev]
            have := run_append_in (P := P) (ty := o.type) hu hi hsrc' hroom z1 (by rw [his]; exact z2)
            rw [his] at this
            exact this
        split at hk
        · rename_i c
          cases hc : Nat.ble (n + l.length) c with
          | true =>
            rw [hc, cond_true] at hk
            split at hk
            · rename_i o' hw
              simp only [Q.run, Option.some.injEq, Prod.mk.injEq] at hk
              obtain ⟨rfl, rfl⟩ := hk
              refine inplace o' hw (ble_t.1 hc) ?_
              show den φ (.sl k g off _ (some c)) = _
              simp only [den, hl, capF, if_true]
            · cases hk
          | false =>
            rw [hc, cond_false] at hk
            have hc : c < n + l.length := by
              rcases Nat.lt_or_ge c (n + l.length) with q | q
              · exact q
              · rw [ble_t.2 q] at hc; cases hc
            split at hk
            · rename_i old hold
              cases hc2 : (Nat.ble ((n + l.length) * byOf P e) 140737488355328 && sizedOk (szOf P e) old && sizedOk (szOf P e) l && Nat.ble (n + l.length) 4294967290) with
              | false => rw [hc2] at hk; cases hk
              | true =>
                rw [hc2, cond_true] at hk
                simp only [Bool.and_eq_true, ble_t] at hc2
                obtain ⟨⟨⟨c1, _⟩, _⟩, c4⟩ := hc2
                simp only [Q.run, Option.some.injEq, Prod.mk.injEq] at hk
                obtain ⟨rfl, rfl⟩ := hk
                obtain ⟨q1, q2, olds, q3, q4⟩ := hI.rds hl hold
                have hcap := grownCap_ge w (n + l.length) c e
                obtain ⟨i', v', y1, y2, y3, y4, y5, y6, y7⟩ := app_new (P := P) hI hf hz hzs hs0 (old := old) (l := l) (olds := olds) (news := news) (N := grownCap w (n + l.length) c e) q2 hall q3 hd (by omega) (by omega)
                rw [q1] at y6 y7
                refine ok_to (exec_append ho hcl hargs hty ?_) y5 y6 y7
                rw [ev]
                have hol : olds.length = n * i'.size := by rw [dens_len q3, flat_len q2, q1, y3]
                exact run_append_grow_src (P := P) w t tx o.type e i' v' hu y1 y2 (some ⟨lc.b, off, none⟩) n c olds (run_firstCells_some w.drew i'.size n _ n c olds hol (by simpa using q4)) (a.eval x) l.length news (by rw [y3]; exact hsrc) hc (by omega) (by rw [y4]; exact grow_room c1 hc)
            · cases hk
        · split at hk
          · rename_i e' s' el len gen fz hrow
            cases hc : (Nat.beq e e' && Nat.beq (szOf P e) s' && Nat.beq g gen && Nat.beq (off % szOf P e) 0 && sizedOk (szOf P e) l && Nat.ble ((n + l.length) * byOf P e) 140737488355328 && Nat.ble (n + l.length) 4294967290 && fzNo fz) with
            | false => rw [hc] at hk; cases hk
            | true =>
              rw [hc, cond_true] at hk
              simp only [Bool.and_eq_true, ble_t, beq_t] at hc
              obtain ⟨⟨⟨⟨⟨⟨⟨rfl, rfl⟩, rfl⟩, c4⟩, c5⟩, c6⟩, c7⟩, c8⟩ := hc
              have c8 : fz = .no := by cases fz <;> first | rfl | cases c8
              subst c8
              have hls := hI.rowS hrow hl
              have hob := hI.obj k
              rw [hrow] at hob
              obtain ⟨g0, g1, gm, g2, g3⟩ := hob
              obtain ⟨lc', m1, ⟨m2, m3, arr, fr, m4, m5, m6, m7⟩, m8⟩ := g3 g (Nat.le_refl _)
              rw [hl] at m1
              injection m1 with m1
              subst m1
              have m6 : fr = (0, 0) := m6
              subst m6
              have hC := ble_t.1 hcf
              have hn8 := m8 rfl
              cases hfit : Nat.ble (off / szOf P e + n + l.length) len with
              | true =>
                rw [hfit, cond_true] at hk
                have hfit := ble_t.1 hfit
                split at hk
                · rename_i o' hw
                  simp only [Q.run, Option.some.injEq, Prod.mk.injEq] at hk
                  obtain ⟨rfl, rfl⟩ := hk
                  rw [hls] at hC
                  refine inplace o' hw (by simp only [capD]; rw [hls]; omega) ?_
                  show den φ (.sl k g off _ none) = _
                  have hx : Nat.ble (off / lc.s + (n + l.length)) lc.n = true := ble_t.2 (by rw [hls]; omega)
                  simp only [den, hl, capF, hx, if_true]
                · cases hk
              | false =>
                rw [hfit, cond_false] at hk
                cases hc9 : (Nat.beq off 0 && Nat.ble n len) with
                | false => rw [hc9] at hk; cases hk
                | true =>
                  rw [hc9, cond_true] at hk
                  simp only [Bool.and_eq_true, ble_t, beq_t] at hc9
                  obtain ⟨rfl, c9⟩ := hc9
                  simp only [Q.run, Option.some.injEq, Prod.mk.injEq] at hk
                  obtain ⟨rfl, rfl⟩ := hk
                  have hgt : len < n + l.length := by
                    rcases Nat.lt_or_ge len (n + l.length) with q | q
                    · exact q
                    · rw [Nat.zero_div, Nat.zero_add, ble_t.2 q] at hfit; cases hfit
                  rw [Nat.zero_div] at ev
                  have hns : n * szOf P e ≤ arr.size := by rw [m5]; exact Nat.mul_le_mul_right _ (by omega)
                  have hnl : news.length = l.length * szOf P e := by rw [dens_len hd, flat_len hall]
                  rcases Nat.lt_or_ge lc.n (n + l.length) with hg | hg
                  · -- a new row
                    have hcap := grownCap_ge w (n + l.length) lc.n e
                    have hvs : zv.cells.size = szOf P e := by
                      obtain ⟨i', v', w1, w2, w3⟩ := zero_info hz
                      rw [hi] at w1
                      injection w1 with w1
                      subst w1
                      rw [hiz] at w2
                      injection w2 with w2
                      subst w2
                      rw [← Array.length_toList, dens_len (denP_cells (w3 φ)), hzs]
                    have hol : (arr.toList.take (n * szOf P e)).length = n * szOf P e := by rw [List.length_take, Array.length_toList]; omega
                    obtain ⟨q1, q2⟩ := Inv.turnUp (l := l) (news := news) (w' := w.drew.alloc (.cells ((arr.toList.take (n * szOf P e) ++ news).toArray ++ Builtin.zeroCells zv.cells (grownCap w (n + l.length) lc.n e - (n + l.length))) e)) (l' := ⟨w.heap.size, grownCap w (n + l.length) lc.n e, szOf P e⟩) hI hrow hl c9 c7 hall hd rfl hI.size (heap_alloc_new w.drew _)
                      (by rw [Array.size_append, zeros_size, hvs, List.size_toArray, List.length_append, hol, hnl, ← Nat.add_mul, ← Nat.add_mul]; congr 1; show _ = grownCap w (n + l.length) lc.n e; omega) (by show n + l.length ≤ grownCap w (n + l.length) lc.n e; omega)
                      (fun j hj arr2 e2 fr2 hh => by
                        rw [m4] at hh
                        injection hh with hh
                        injection hh with hh _ _
                        subst hh
                        rw [Array.getElem?_append_left (by simp; omega), List.getElem?_toArray, List.getElem?_append_left (by omega), List.getElem?_take, if_pos hj, Array.getElem?_toList])
                      (fun j u hj => by
                        have := (List.getElem?_eq_some_iff.1 hj).1
                        rw [Array.getElem?_append_left (by simp; omega), List.getElem?_toArray, List.getElem?_append_right (by omega), hol, Nat.add_sub_cancel_left]
                        exact hj)
                      (.inr (Nat.le_refl _)) (fun hh => by have := hI.lt hl; simp only at hh; omega) (fun b hb _ => heap_alloc_old w.drew _ b hb) rfl rfl rfl (by show w.heap.size ≤ (w.heap.push _).size; simp) (Nat.le_succ _)
                    refine ok_to (v := .slice (some ⟨w.heap.size, 0, none⟩) (n + l.length) (grownCap w (n + l.length) lc.n e)) (exec_append ho hcl hargs hty ?_) q1 q2 ?_
                    · rw [ev]
                      have := run_append_grow_src (P := P) w t tx o.type e i zv hu hi hiz (some ⟨lc.b, 0, none⟩) n lc.n (arr.toList.take (n * szOf P e)) (run_firstCells_some w.drew i.size n _ n lc.n _ (by rw [his]; exact hol) (fun j u hj => by
                        have hjl := (List.getElem?_eq_some_iff.1 hj).1
                        rw [add_at, Nat.zero_add]
                        rw [cell_of_row w.drew lc.b j arr e (0, 0) m4]
                        rw [List.getElem?_take, if_pos (by omega), Array.getElem?_toList] at hj
                        exact hj)) (a.eval x) l.length news hsrc' hg (by omega) (by rw [hib]; exact grow_room c6 hg)
                      simpa [capD] using this
                    · show den _ (.sl k (g + 1) 0 _ none) = _
                      have hx : Nat.ble (0 + (n + l.length)) (grownCap w (n + l.length) lc.n e) = true := ble_t.2 (by omega)
                      simp only [den, Gx.turn_self, Nat.zero_div, capF, hx, if_true, capD, Nat.sub_zero]
                  · -- in place
                    have hfit2 : n * szOf P e + news.length ≤ arr.size := by rw [m5, hnl, ← Nat.add_mul]; exact Nat.mul_le_mul_right _ hg
                    have hsz2 : (arr.toList.take (n * szOf P e) ++ news ++ arr.toList.drop (n * szOf P e + news.length)).toArray.size = arr.size := by
                      simp only [List.size_toArray, List.length_append, List.length_take, List.length_drop, Array.length_toList]
                      omega
                    obtain ⟨q1, q2⟩ := Inv.turnUp (l := l) (news := news) (w' := w.setRow lc.b (arr.toList.take (n * szOf P e) ++ news ++ arr.toList.drop (n * szOf P e + news.length)).toArray) (l' := lc) hI hrow hl c9 c7 hall hd hls m2 (setRow_heap w lc.b arr _ e _ m4)
                      (by rw [hsz2]; exact m5) hg
                      (fun j hj arr2 e2 fr2 hh => by
                        rw [m4] at hh
                        injection hh with hh
                        injection hh with hh _ _
                        subst hh
                        rw [vals_get hfit2, if_neg (by omega)])
                      (fun j u hj => by
                        have := (List.getElem?_eq_some_iff.1 hj).1
                        rw [vals_get hfit2, if_pos (by omega), Nat.add_sub_cancel_left]
                        exact hj)
                      (.inl rfl) (fun _ arr2 e2 fr2 hh => by
                        rw [m4] at hh
                        injection hh with hh
                        injection hh with hh _ _
                        subst hh
                        exact hsz2) (fun b hb hne => setRow_other w lc.b b _ hne) rfl rfl rfl (by simp [World.setRow]) (Nat.le_refl _)
                    refine ok_to (v := .slice (some ⟨lc.b, 0, none⟩) (n + l.length) (capD none lc.n 0)) (exec_append ho hcl hargs hty ?_) q1 q2 ?_
                    · rw [ev]
                      have := run_append_in (P := P) (ty := o.type) (sCap := capD none lc.n 0) hu hi hsrc' (by simpa [capD] using hg) (off := 0) m4 (by rw [his, Nat.zero_add]; exact hfit2)
                      rw [his, Nat.zero_add] at this
                      exact this
                    · show den _ (.sl k (g + 1) 0 _ none) = _
                      have hx : Nat.ble (0 + (n + l.length)) lc.n = true := ble_t.2 (by omega)
                      simp only [den, Gx.turn_self, Nat.zero_div, capF, hx, if_true]
          · cases hk
    · cases hk
  · cases hq

end
end Go.Proofs.YtdjhicbhegaenaaGreatDoor.Clo
