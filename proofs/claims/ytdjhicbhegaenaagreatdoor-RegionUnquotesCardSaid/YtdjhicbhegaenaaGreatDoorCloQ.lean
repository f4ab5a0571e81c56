/- Closed runs: maps are written, ranged over. -/
import Derived.Test.YtdjhicbhegaenaaGreatDoorCloP
import Derived.Maps.RangeRun
namespace Go.Proofs.YtdjhicbhegaenaaGreatDoor.Clo
open Go Go.RowKit Go.MapKept

section
variable {P : Program} {B : Nat} {w0 : W0} {φ : Gx} {h : Pos → EO} {w : World} {o : Oper} {a : Act}

theorem found_key {es : List ME} {vs : Array MapEntry} (hd : denEs φ es vs.toList) {ks : List CK} {agg : Bool} {k : PV} {v : Value} (hk : denP φ k = some v) {j : Nat} {e : ME} {m : MapEntry} (he : es[j]? = some e) (hm : vs.toList[j]? = some m) (hq : eqP ks agg k e.key = some true) : (((vs[j]?).map (·.key)).getD v) = v ∧ vs[j]? = some m ∧ denP φ e.val = some m.val ∧ m.born = e.born ∧ eqP ks agg k k = some true := by
  obtain ⟨m2, z1, z2, z3, z4⟩ := hd.2 j e he
  rw [hm] at z1
  injection z1 with z1
  subst z1
  have hkk := eqP_true hq
  subst hkk
  rw [hk] at z2
  injection z2 with z2
  have hm' : vs[j]? = some m := by rw [← Array.getElem?_toList]; exact hm
  exact ⟨by rw [hm']; exact z2.symm, hm', z3, z4, hq⟩

theorem ok_put (hI : Inv B w0 φ h w) {t kt e : TypeId} {x y z : Operand} (ho : o.op = .mapUpdate t x y z ∨ o.op = .insert t x y z) (hu : P.underlying t = some (.map kt e)) {q : EqK} (hkey : keyOf P kt = some q) {vals : List TV} (hv : RTs φ vals [a.eval x, a.eval y, a.eval z]) {f : Pos} {out : TV} {wr : Option (Pos × EO)} (hq : (ePut q vals f).run h = some (out, wr)) : OkX P B w0 φ h w o a out wr := by
  obtain ⟨ks, agg, rfl, hk⟩ := keyOf_inv hkey
  have hex : ∀ {w'}, (Instr.mapUpdate t (a.eval x) (a.eval y) (a.eval z)).run P w = .ok () w' → (execOp a.eval o).run P w = .ok .skip w' := fun hr => by
    unfold execOp
    rcases ho with ho | ho <;> simp [ho, hr]
  unfold ePut at hq
  split at hq
  · obtain ⟨v1, ws, e1, hr1, hr2⟩ := hv.cons
    obtain ⟨v2, ws2, e2, hr3, hr4⟩ := hr2.cons
    obtain ⟨v3, e3, hr5⟩ := hr4.one
    subst e3; subst e2
    simp only [List.cons.injEq, and_true] at e1
    obtain ⟨e1, e2, e3⟩ := e1
    subst e1; subst e2; subst e3
    split at hq
    · rename_i ks' agg' m kv v heq
      injection heq with h1 h2
      subst h1; subst h2
      have hr3 : denP φ kv = some (a.eval y) := hr3
      have hr5 : denP φ v = some (a.eval z) := hr5
      cases hok : keyOk ks agg kv with
      | false => rw [hok] at hq; cases hq
      | true =>
        rw [hok, cond_true] at hq
        simp only [Q.run] at hq
        split at hq
        · rename_i es clock hm
          obtain ⟨l, vs, q1, qo, ev, qB, q3, q4⟩ := map_inv hI hm hr1
          split at hq
          · rename_i i e' hf
            simp only [Q.run, Option.some.injEq, Prod.mk.injEq] at hq
            obtain ⟨rfl, rfl⟩ := hq
            obtain ⟨o', p1, p2⟩ := find_key (w := w) hk hr3 q4 hf
            obtain ⟨j, m', rfl, h2, h3, h4, h5⟩ := p2
            obtain ⟨y1, y2, y3, y4, y5⟩ := found_key q4 hr3 h3 h4 h5
            subst h2
            refine ok_skip (hex ?_) (Gx.le.refl φ) (hI.setM q1 qo qB (c' := clock) (vs' := vs.modify (0 + j) fun e => { e with key := a.eval y, val := a.eval z }) q3 (denEs_set q4 fun e m _ _ _ _ hb => ⟨hr3, hr5, hb⟩))
            have y1' : (((vs[0 + j]?).map (·.key)).getD (a.eval y)) = a.eval y := by rw [Nat.zero_add]; exact y1
            simp only [Instr.mapUpdate, Sem.run_bind, run_underlying hu, ev, Result.andThen_ok, MapKept.run_getObj_map q3, run_check hk hr3 hok, p1, y1', bits_self y5 hr3, MapKept.run_setObj_map _ q3]
          · rename_i hf
            simp only [Q.run, Option.some.injEq, Prod.mk.injEq] at hq
            obtain ⟨rfl, rfl⟩ := hq
            obtain ⟨o', p1, p2⟩ := find_key (w := w) hk hr3 q4 hf
            have p2 : o' = none := p2
            subst p2
            refine ok_skip (hex ?_) (Gx.le.refl φ) (hI.setM q1 qo qB (c' := clock + 1) (vs' := vs.push { key := a.eval y, val := a.eval z, born := clock }) q3 (denEs_push q4 hr3 hr5 rfl))
            simp only [Instr.mapUpdate, Sem.run_bind, run_underlying hu, ev, Result.andThen_ok, MapKept.run_getObj_map q3, run_check hk hr3 hok, p1, MapKept.run_setObj_map _ q3]
          · cases hq
        · cases hq
    · cases hq
  · cases hq

theorem ok_ment (hI : Inv B w0 φ h w) {t kt e : TypeId} {x y : Operand} (ho : o.op = .mapEntry t x y) (hu : P.underlying t = some (.map kt e)) {q : EqK} (hkey : keyOf P kt = some q) {z : PV} (hz : zeroOf P e = some z) {vals : List TV} (hv : RTs φ vals [a.eval x, a.eval y]) {f : Pos} {out : TV} {wr : Option (Pos × EO)} (hq : (eMent q z vals f).run h = some (out, wr)) : OkX P B w0 φ h w o a out wr := by
  obtain ⟨ks, agg, rfl, hk⟩ := keyOf_inv hkey
  have hex : ∀ {v w'}, (Instr.mapEntry t (a.eval x) (a.eval y)).run P w = .ok v w' → (execOp a.eval o).run P w = .ok (.value v) w' := fun hr => by
    unfold execOp
    simp [ho, hr]
  unfold eMent at hq
  split at hq
  · obtain ⟨v1, ws, e1, hr1, hr2⟩ := hv.cons
    obtain ⟨v2, e2, hr3⟩ := hr2.one
    subst e2
    simp only [List.cons.injEq, and_true] at e1
    obtain ⟨e1, e2⟩ := e1
    subst e1; subst e2
    split at hq
    · rename_i ks' agg' m kv heq
      injection heq with h1 h2
      subst h1; subst h2
      have hr3 : denP φ kv = some (a.eval y) := hr3
      cases hok : keyOk ks agg kv with
      | false => rw [hok] at hq; cases hq
      | true =>
        rw [hok, cond_true] at hq
        simp only [Q.run] at hq
        split at hq
        · rename_i es clock hm
          obtain ⟨l, vs, q1, qo, ev, qB, q3, q4⟩ := map_inv hI hm hr1
          split at hq
          · rename_i i e' hf
            simp only [Q.run, Option.some.injEq, Prod.mk.injEq] at hq
            obtain ⟨rfl, rfl⟩ := hq
            obtain ⟨o', p1, p2⟩ := find_key (w := w) hk hr3 q4 hf
            obtain ⟨j, m', rfl, h2, h3, h4, h5⟩ := p2
            obtain ⟨y1, y2, y3, y4, y5⟩ := found_key q4 hr3 h3 h4 h5
            subst h2
            have y1' : (((vs[0 + j]?).map (·.key)).getD (a.eval y)) = a.eval y := by rw [Nat.zero_add]; exact y1
            have y2' : (((vs[0 + j]?).map fun x => (x.born : Int)).getD 0) = Int.ofNat e'.born := by rw [Nat.zero_add, y2]; show (m'.born : Int) = _; rw [y4]; rfl
            refine ok_to (v := .tuple #[m'.val, .int .i64 (Int.ofNat e'.born)]) (hex ?_) (Gx.le.refl φ) (hI.setM q1 qo qB (c' := clock) (vs' := vs.modify (0 + j) fun e => { e with key := a.eval y }) q3 (denEs_set q4 fun e m _ _ _ hvv hb => ⟨hr3, hvv, hb⟩)) ⟨_, denPs_mk y3 (denPs_mk (mk_int _ _) rfl), rfl⟩
            simp only [Instr.mapEntry, Sem.run_bind, run_underlying hu, ev, Result.andThen_ok, MapKept.run_getObj_map q3, run_check hk hr3 hok, p1, y1', bits_self y5 hr3, MapKept.run_setObj_map _ q3, Sem.run_pure, goInt]
            rw [y2']
          · rename_i hf
            simp only [Q.run, Option.some.injEq, Prod.mk.injEq] at hq
            obtain ⟨rfl, rfl⟩ := hq
            obtain ⟨o', p1, p2⟩ := find_key (w := w) hk hr3 q4 hf
            have p2 : o' = none := p2
            subst p2
            obtain ⟨zv, hzr, hzd⟩ := zero_run hz w
            refine ok_to (v := .tuple #[zv, .int .i64 (Int.ofNat clock)]) (hex ?_) (Gx.le.refl φ) (hI.setM q1 qo qB (c' := clock + 1) (vs' := vs.push { key := a.eval y, val := zv, born := clock }) q3 (denEs_push q4 hr3 (hzd φ) rfl)) ⟨_, denPs_mk (hzd φ) (denPs_mk (mk_int _ _) rfl), rfl⟩
            simp only [Instr.mapEntry, Sem.run_bind, run_underlying hu, ev, Result.andThen_ok, MapKept.run_getObj_map q3, run_check hk hr3 hok, p1, hzr, MapKept.run_setObj_map _ q3, Sem.run_pure, goInt]
            rfl
          · cases hq
        · cases hq
    · cases hq
  · cases hq

theorem findB_spec : ∀ {es : List ME} {vs : List MapEntry} {b i n : Nat}, denEs φ es vs → findB b es i = some n → ∃ j, n = i + j ∧ vs.findIdx? (fun e => (e.born : Int) == (b : Int)) = some j
  | [], vs, b, i, n, _, h => by cases h
  | e :: es, [], b, i, n, hd, h => by have := hd.1; simp at this
  | e :: es, m :: vs, b, i, n, hd, h => by
    obtain ⟨_, _, h3, h4⟩ := denEs_cons hd
    simp only [findB] at h
    cases hb : Nat.beq e.born b with
    | true =>
      rw [hb] at h
      injection h with h
      subst h
      have hb := beq_t.1 hb
      exact ⟨0, rfl, by simp [List.findIdx?_cons, h3, hb]⟩
    | false =>
      rw [hb] at h
      obtain ⟨j, rfl, hj⟩ := findB_spec h4 h
      have hb := Nat.ne_of_beq_eq_false hb
      have hb : ¬ ((e.born : Int) = (b : Int)) := by omega
      exact ⟨j + 1, by omega, by simp [List.findIdx?_cons, h3, hb]; simpa using hj⟩
theorem ok_mest (hI : Inv B w0 φ h w) {t : TypeId} {x y z : Operand} (ho : o.op = .entryStore t x y z) {vals : List TV} (hv : RTs φ vals [a.eval x, a.eval y, a.eval z]) {f : Pos} {out : TV} {wr : Option (Pos × EO)} (hq : (eMest vals f).run h = some (out, wr)) : OkX P B w0 φ h w o a out wr := by
  unfold eMest at hq
  split at hq
  · obtain ⟨v1, ws, e1, hr1, hr2⟩ := hv.cons
    obtain ⟨v2, ws2, e2, hr3, hr4⟩ := hr2.cons
    obtain ⟨v3, e3, hr5⟩ := hr4.one
    subst e3; subst e2
    simp only [List.cons.injEq, and_true] at e1
    obtain ⟨e1, e2, e3⟩ := e1
    subst e1; subst e2; subst e3
    split at hq
    · rename_i m k b v
      have hr5 : denP φ v = some (a.eval z) := hr5
      have hb := rt_int hr3
      simp only [Q.run] at hq
      split at hq
      · rename_i es clock hm
        obtain ⟨l, vs, q1, qo, ev, qB, q3, q4⟩ := map_inv hI hm hr1
        split at hq
        · rename_i i hf
          simp only [Q.run, Option.some.injEq, Prod.mk.injEq] at hq
          obtain ⟨rfl, rfl⟩ := hq
          obtain ⟨j, hj0, hj⟩ := findB_spec q4 hf
          rw [Nat.zero_add] at hj0
          subst hj0
          have hj' : vs.findIdx? (fun e => (e.born : Int) == (b : Int)) = some i := by have := List.findIdx?_toArray (p := fun e => ((e : MapEntry).born : Int) == (b : Int)) (l := vs.toList); rw [hj] at this; simpa using this
          refine ok_skip (w' := { w with heap := w.heap.setIfInBounds l.b (.map (vs.modify i fun e => { e with val := a.eval z }) clock) }) ?_ (Gx.le.refl φ) (hI.setM q1 qo qB q3 (denEs_set q4 fun e m _ _ hkk _ hb => ⟨hkk, hr5, hb⟩))
          unfold execOp
          have hset := MapKept.run_setObj_map (P := P) (.map (vs.modify i fun e => { e with val := a.eval z }) clock) q3
          have hb' : a.eval y = .int k (b : Int) := hb
          simp [ho, ev, Instr.entryStore, MapKept.run_getObj_map q3, hb', asInt, asIntOf, hj', hset]
        · cases hq
      · cases hq
    · cases hq
  · cases hq

theorem ok_rngm (hI : Inv B w0 φ h w) {t kt e : TypeId} {x : Operand} (ho : o.op = .range t x) (hu : P.underlying t = some (.map kt e)) {f : Pos} (hf : h f = .none) {vals : List TV} (hv : RTs φ vals [a.eval x]) {out : TV} {wr : Option (Pos × EO)} (hq : (eRngm vals f).run h = some (out, wr)) : OkX P B w0 φ h w o a out wr := by
  unfold eRngm at hq
  split at hq
  · obtain ⟨v, e1, hr⟩ := hv.one
    simp only [List.cons.injEq, and_true] at e1
    subst e1
    have mk : ∀ {ob : Obj} {o' : EO}, (execOp a.eval o).run P w = .ok (.value (.pointer (some ⟨w.heap.size, 0, none⟩))) (w.alloc ob) → ObOk (φ.add f ⟨w.heap.size, 0, 0⟩) (w.alloc ob) B f o' → blank o' = false → out = .pv (.one (.ptr f 0 0)) → wr = some (f, o') → OkX P B w0 φ h w o a out wr := fun {ob o'} hrun hob hno h1 h2 => by
      subst h1; subst h2
      refine ok_to hrun (hI.le_add hf _) (hI.new hf (l := ⟨w.heap.size, 0, 0⟩) rfl hob hno) ?_ hno
      show den _ (.ptr f 0 0) = _
      simp only [den, Gx.add_self]
    have one : ∀ g, 0 < g → (φ.add f ⟨w.heap.size, 0, 0⟩).loc f g = none := fun g hg => by
      simp only [Gx.add, if_true]
      rw [if_neg (by omega)]
    split at hq
    · simp only [Q.run, Option.some.injEq, Prod.mk.injEq] at hq
      obtain ⟨rfl, rfl⟩ := hq
      refine mk (ob := .mapIter none 0 #[] 0) (o' := .mit none 0 [] 0) ?_ ⟨one, ⟨w.heap.size, 0, 0⟩, Gx.add_self _ _ _, hI.size, heap_alloc_new w _⟩ rfl rfl rfl
      unfold execOp
      simp [ho, rt_nilm hr, Instr.range, run_underlying hu]
    · rename_i m
      simp only [Q.run] at hq
      split at hq
      · rename_i es clock hm
        simp only [Q.run, Option.some.injEq, Prod.mk.injEq] at hq
        obtain ⟨rfl, rfl⟩ := hq
        obtain ⟨l, vs, q1, qo, ev, qB, q3, q4⟩ := map_inv hI hm hr
        refine mk (ob := .mapIter (some l.b) clock #[] clock) (o' := .mit (some m) clock [] clock) ?_ ⟨one, ⟨w.heap.size, 0, 0⟩, Gx.add_self _ _ _, hI.size, l, (hI.le_add hf _).loc _ _ _ q1, heap_alloc_new w _⟩ rfl rfl rfl
        unfold execOp
        simp [ho, ev, Instr.range, run_underlying hu, MapKept.run_getObj_map q3]
      · cases hq
    · cases hq
  · cases hq

theorem findME_spec : ∀ {es : List ME} {vs : List MapEntry} {b : Nat} {e : ME}, denEs φ es vs → findME b es = some e → ∃ m, vs.find? (fun x => x.born == b) = some m ∧ denP φ e.key = some m.key ∧ denP φ e.val = some m.val
  | [], vs, b, e, _, h => by cases h
  | x :: es, [], b, e, hd, h => by have := hd.1; simp at this
  | x :: es, m :: vs, b, e, hd, h => by
    obtain ⟨h1, h2, h3, h4⟩ := denEs_cons hd
    simp only [findME] at h
    cases hb : Nat.beq x.born b with
    | true =>
      rw [hb] at h
      injection h with h
      subst h
      exact ⟨m, by simp [h3, beq_t.1 hb], h1, h2⟩
    | false =>
      rw [hb] at h
      obtain ⟨m', q1, q2⟩ := findME_spec h4 h
      have hb := Nat.ne_of_beq_eq_false hb
      have : (m.born == b) = false := by rw [h3]; simpa using hb
      exact ⟨m', by rw [List.find?_cons, this]; exact q1, q2⟩
theorem lastN_spec : ∀ {l : List Nat} {b : Nat}, lastN l = some b → l.getLast? = some b
  | [], _, h => by cases h
  | [x], b, h => h
  | x :: y :: l, b, h => by
    have := lastN_spec (l := y :: l) h
    rw [List.getLast?_cons_cons]
    exact this
theorem it_ptr (hI : Inv B w0 φ h w) {k : Pos} {g : Nat} {v : Value} (hr : RT φ (.pv (.one (.ptr k g 0))) v) {l : Loc} (hl : φ.loc k 0 = some l) (hone : ∀ g, 0 < g → φ.loc k g = none) : v = .pointer (some ⟨l.b, 0, none⟩) := by
  obtain ⟨l', h1, h2⟩ := rt_ptr hr
  cases g with
  | zero =>
    rw [hl] at h1
    injection h1 with h1
    rw [h2, h1]
  | succ g => rw [hone _ (by omega)] at h1; cases h1
theorem run_getObj_it {m : Option Nat} {r since c : Nat} {seen : Array Nat} (hr : w.heap[r]? = some (.mapIter m since seen c)) : (getObj r).run P w = .ok (.mapIter m since seen c) w := by
  simp [getObj, Sem.run, hr]
theorem ok_ent (hI : Inv B w0 φ h w) {x : Operand} (ho : o.op = .entry x) {vals : List TV} (hv : RTs φ vals [a.eval x]) {f : Pos} {out : TV} {wr : Option (Pos × EO)} (hq : (eEnt vals f).run h = some (out, wr)) : OkX P B w0 φ h w o a out wr := by
  unfold eEnt at hq
  split at hq
  · obtain ⟨v, e1, hr⟩ := hv.one
    simp only [List.cons.injEq, and_true] at e1
    subst e1
    have fin : ∀ {m : Pos} {l lm : Loc} {b stepped since : Nat} {seen : Array Nat}, (entQ m b stepped).run h = some (out, wr) → φ.loc m 0 = some lm → a.eval x = .pointer (some ⟨l.b, 0, none⟩) → w.heap[l.b]? = some (.mapIter (some lm.b) since seen stepped) → seen.back? = some b → OkX P B w0 φ h w o a out wr := by
      intro m l lm b stepped since seen hq hlm hx hit hback
      unfold entQ at hq
      simp only [Q.run] at hq
      split at hq
      · rename_i es clock hm
        cases hc : Nat.beq clock stepped with
        | false => rw [hc] at hq; cases hq
        | true =>
          rw [hc, cond_true] at hq
          have hc := beq_t.1 hc
          subst hc
          split at hq
          · rename_i e hf
            simp only [Q.run, Option.some.injEq, Prod.mk.injEq] at hq
            obtain ⟨rfl, rfl⟩ := hq
            have hob := hI.obj m
            rw [hm] at hob
            obtain ⟨_, l2, vs, q1, q2, q3, q4⟩ := hob
            rw [hlm] at q1
            injection q1 with q1
            subst q1
            obtain ⟨me, z1, z2, z3⟩ := findME_spec q4 hf
            have z1' : vs.find? (fun x => x.born == b) = some me := by rw [← Array.find?_toList]; exact z1
            refine ok_ret hI (v := .tuple #[me.key, me.val]) ?_ ⟨_, denPs_mk z2 (denPs_mk z3 rfl), rfl⟩
            unfold execOp
            simp [ho, hx, Instr.entry, run_getObj_it hit, MapKept.run_getObj_map q3, hback, z1']
          · cases hq
      · cases hq
    split at hq
    · rename_i k g
      simp only [Q.run] at hq
      have hob := hI.obj k
      split at hq
      · rename_i m since seen stepped hk
        rw [hk] at hob
        obtain ⟨g1, l, q1, q2, lm, q3, q4⟩ := hob
        split at hq
        · rename_i b hb
          exact fin hq q3 (it_ptr hI hr q1 g1) q4 (by rw [List.back?_toArray]; exact lastN_spec hb)
        · cases hq
      · rename_i m since bs b c hk
        rw [hk] at hob
        obtain ⟨g1, l, lm, seen, stepped, n, q1, q2, q3, q4, _, _, _, q8⟩ := hob
        obtain ⟨z1, z2⟩ := q8 (b, c) rfl
        have z2 : stepped = c := z2
        subst z2
        exact fin hq q3 (it_ptr hI hr q1 g1) q4 z1
      · cases hq
    · cases hq
  · cases hq

theorem unseen_filter {seen : List Nat} : ∀ {es : List ME} {vs : List MapEntry}, denEs φ es vs → denEs φ (unseen seen es) (vs.filter fun e => !seen.toArray.contains e.born)
  | [], [], _ => ⟨rfl, fun i e h => by simp [unseen] at h⟩
  | [], _ :: _, hd => by have := hd.1; simp at this
  | _ :: _, [], hd => by have := hd.1; simp at this
  | e :: es, m :: vs, hd => by
    obtain ⟨h1, h2, h3, h4⟩ := denEs_cons hd
    have ih := unseen_filter (seen := seen) h4
    have hany : seen.any (Nat.beq e.born) = seen.toArray.contains m.born := by
      rw [h3, List.contains_toArray, List.contains_eq_any_beq]
      congr 1
      funext y
      cases hb : Nat.beq e.born y with
      | true => simp [beq_t.1 hb]
      | false => simp [Nat.ne_of_beq_eq_false hb]
    simp only [unseen, List.filter_cons]
    rw [hany]
    cases hc : seen.toArray.contains m.born with
    | true => simpa using ih
    | false =>
      simp only [cond_false, Bool.not_false, if_true]
      refine ⟨by rw [List.length_cons, List.length_cons, ih.1], fun i x hx => ?_⟩
      cases i with
      | zero =>
        simp at hx
        subst hx
        exact ⟨m, rfl, h1, h2, h3⟩
      | succ i => simpa using ih.2 i x (by simpa using hx)

theorem run_forced (n : Nat) (hn : n ≤ 1) : (choose (.mapNext n)).run P w = .ok 0 w := by
  simp [choose, Sem.run, Question.forced, hn]

/-- The next entry of a map, where it is known which. -/
theorem ok_next (hI : Inv B w0 φ h w) {x : Operand} (ho : o.op = .next x false) {t : TV} (hr : RT φ t (a.eval x)) {out : TV} {wr : Option (Pos × EO)} (hq : nextQ h t = some (out, wr)) : OkX P B w0 φ h w o a out wr := by
  have hex : ∀ {v w'}, (Instr.next (a.eval x) false o.type).run P w = .ok v w' → (execOp a.eval o).run P w = .ok (.value v) w' := fun hr => by
    unfold execOp
    simp [ho, hr]
  have over : RT φ tOver (.tuple #[.bool false]) := ⟨[.bool false], rfl, rfl⟩
  unfold nextQ at hq
  split at hq
  · rename_i it g
    have hob := hI.obj it
    split at hq
    · rename_i since seen stepped hk
      simp only [Option.some.injEq, Prod.mk.injEq] at hq
      obtain ⟨rfl, rfl⟩ := hq
      rw [hk] at hob
      obtain ⟨g1, l, q1, q2, q3⟩ := hob
      refine ok_ret hI (hex ?_) over
      rw [it_ptr hI hr q1 g1]
      simp [Instr.next, run_getObj_it q3]
    · rename_i m since seen sp hk
      rw [hk] at hob
      obtain ⟨g1, l, q1, q2, lm, q3, q4⟩ := hob
      split at hq
      · rename_i es clock hm
        have hom := hI.obj m
        rw [hm] at hom
        obtain ⟨_, l2, vs, y1, y2, y3, y4⟩ := hom
        rw [q3] at y1
        injection y1 with y1
        subst y1
        have hun := unseen_filter (seen := seen) y4
        have hfl : (vs.filter fun e => !seen.toArray.contains e.born).toList = vs.toList.filter fun e => !seen.toArray.contains e.born := by simp
        rw [← hfl] at hun
        split at hq
        · rename_i hus
          rw [hus] at hun
          have hnil : (vs.filter fun e => !seen.toArray.contains e.born) = #[] := by
            apply Array.eq_empty_of_size_eq_zero
            rw [← Array.length_toList, hun.1]
            rfl
          cases hc : (seen.isEmpty || es.isEmpty || es.any (fun e => Nat.blt e.born sp)) with
          | false => rw [hc] at hq; cases hq
          | true =>
            rw [hc, cond_true] at hq
            simp only [Option.some.injEq, Prod.mk.injEq] at hq
            obtain ⟨rfl, rfl⟩ := hq
            have hno : (!seen.toArray.isEmpty && !vs.isEmpty && vs.all (·.born ≥ sp)) = false := by
              simp only [Bool.or_eq_true] at hc
              rcases hc with (hc | hc) | hc
              · have : seen = [] := by simpa using hc
                subst this
                rfl
              · have : es = [] := by simpa using hc
                subst this
                have : vs = #[] := by
                  apply Array.eq_empty_of_size_eq_zero
                  rw [← Array.length_toList, y4.1]
                  rfl
                subst this
                simp
              · obtain ⟨e, he, hlt⟩ := List.any_eq_true.1 hc
                obtain ⟨i, hi⟩ := List.getElem?_of_mem he
                obtain ⟨me, z1, _, _, z4⟩ := y4.2 i e hi
                rw [Bool.and_eq_false_iff]
                right
                rw [Bool.eq_false_iff]
                intro hall
                have := Array.all_eq_true_iff_forall_mem.1 hall me (Array.mem_toList_iff.1 (List.mem_of_getElem? z1))
                have hlt := blt_t.1 hlt
                simp at this
                omega
            refine ok_ret hI (hex ?_) over
            rw [it_ptr hI hr q1 g1]
            simp only [Instr.next, Sem.run_bind, run_getObj_it q4, Result.andThen_ok, MapKept.run_getObj_map y3, hno, hnil]
            simp [Question.forced]
        · rename_i e hus
          rw [hus] at hun
          cases hc : (Nat.blt e.born since && Nat.blt e.born sp) with
          | false => rw [hc] at hq; cases hq
          | true =>
            rw [hc, cond_true] at hq
            simp only [Option.some.injEq, Prod.mk.injEq] at hq
            obtain ⟨rfl, rfl⟩ := hq
            simp only [Bool.and_eq_true, blt_t] at hc
            obtain ⟨me, z1, z2, z3, z4⟩ := hun.2 0 e rfl
            have hone : (vs.filter fun e => !seen.toArray.contains e.born) = #[me] := by
              apply Array.ext'
              have hl := hun.1
              revert z1 hl
              generalize (vs.filter fun e => !seen.toArray.contains e.born).toList = L
              intro z1 hl
              match L, hl with
              | [y], _ => simp at z1; rw [z1]
            have hmem : me ∈ vs := by
              have : me ∈ (vs.filter fun e => !seen.toArray.contains e.born) := by rw [hone]; simp
              exact (Array.mem_filter.1 this).1
            have hno : (!seen.toArray.isEmpty && !vs.isEmpty && vs.all (·.born ≥ sp)) = false := by
              rw [Bool.and_eq_false_iff]
              right
              rw [Bool.eq_false_iff]
              intro hall
              have := Array.all_eq_true_iff_forall_mem.1 hall me hmem
              simp at this
              omega
            have hlt : me.born < since := by omega
            refine ok_to (hex (v := .tuple #[.bool true, me.key, me.val]) (w' := { w with heap := w.heap.setIfInBounds l.b (.mapIter (some lm.b) since (seen.toArray.push me.born) clock) }) ?_) (Gx.le.refl φ) (hI.setO q1 g1 (ob := .mapIter (some lm.b) since seen.toArray sp) q4 rfl ⟨g1, l, q1, q2, lm, q3, ?_⟩) ⟨_, denPs_mk rfl (denPs_mk z2 (denPs_mk z3 rfl)), rfl⟩
            · rw [it_ptr hI hr q1 g1]
              have hset : (setObj l.b (.mapIter (some lm.b) since (seen.toArray.push me.born) clock)).run P w = .ok () { w with heap := w.heap.setIfInBounds l.b (.mapIter (some lm.b) since (seen.toArray.push me.born) clock) } := by
                simp [setObj, Sem.run, q4]
              have hge : ¬ since ≤ me.born := by omega
              simp only [Instr.next, Sem.run_bind, run_getObj_it q4, Result.andThen_ok, MapKept.run_getObj_map y3, hno, hone]
              simp only [List.push_toArray] at hset ⊢
              simp [hlt, hge, Question.forced, hset]
            · rw [(MapKept.heap_set q4).1, z4]
              simp
        · cases hq
      · cases hq
    · cases hq
  · cases hq

end
end Go.Proofs.YtdjhicbhegaenaaGreatDoor.Clo
