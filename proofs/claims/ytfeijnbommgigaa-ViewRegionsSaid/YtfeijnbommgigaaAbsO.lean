/- Regions whose order is open are sound. -/
import Derived.Test.YtfeijnbommgigaaAbsN
namespace Go.Proofs.Ytfeijnbommgigaa.Abs
open Go Go.RowKit

theorem befores_len : ∀ (l : List Oper) (acc : List Nat), (befores l acc).length = acc.length + l.length
  | [], acc => by simp [befores]
  | o :: l, acc => by simp [befores, befores_len l]; omega

theorem befores_pre : ∀ (l : List Oper) (acc : List Nat) (i : Nat), i < acc.length → (befores l acc).getD i 0 = acc.getD i 0
  | [], acc, i, _ => by simp [befores]
  | o :: l, acc, i, h => by
    rw [befores, befores_pre l _ i (by simp; omega)]
    simp [List.getD, List.getElem?_append_left h]

theorem foldl_or {acc : List Nat} : ∀ (es : List Edge) (s q : Nat), (es.foldl (fun s e => if Region.binds .any e then s ||| 2 ^ e.on ||| acc.getD e.on 0 else s) s).testBit q = true →
    s.testBit q = true ∨ ∃ e ∈ es, Region.binds .any e = true ∧ (q = e.on ∨ (acc.getD e.on 0).testBit q = true)
  | [], s, q, h => .inl h
  | e :: es, s, q, h => by
    simp only [List.foldl_cons] at h
    rcases foldl_or es _ q h with h1 | ⟨e', he', hb, hq⟩
    · split at h1
      · rename_i hb
        simp only [Nat.testBit_or, Bool.or_eq_true] at h1
        rcases h1 with (h1 | h1) | h1
        · exact .inl h1
        · refine .inr ⟨e, by simp, hb, .inl ?_⟩
          rw [Nat.testBit_two_pow] at h1
          exact (of_decide_eq_true h1).symm
        · exact .inr ⟨e, by simp, hb, .inr h1⟩
      · exact .inl h1
    · exact .inr ⟨e', by simp [he'], hb, hq⟩

theorem befores_spec : ∀ (l : List Oper) (acc : List Nat) (i : Nat) (o : Oper), l[i]? = some o → edgesOk acc.length l = true → ∀ q, ((befores l acc).getD (acc.length + i) 0).testBit q = true →
    ∃ e ∈ o.after.toList, Region.binds .any e = true ∧ (q = e.on ∨ ((befores l acc).getD e.on 0).testBit q = true)
  | [], acc, i, o, h, _, _, _ => by simp at h
  | x :: l, acc, 0, o, h, hok, q, hq => by
    simp at h
    subst h
    simp only [edgesOk, Bool.and_eq_true, List.all_eq_true, decide_eq_true_eq] at hok
    rw [befores, befores_pre l _ _ (by simp)] at hq
    simp only [Nat.add_zero, List.getD, List.getElem?_append_right (Nat.le_refl _), Nat.sub_self, List.getElem?_cons_zero, Option.getD_some] at hq
    rcases foldl_or _ _ _ hq with h1 | ⟨e, he, hb, hx⟩
    · simp at h1
    · refine ⟨e, he, hb, hx.imp id fun hx => ?_⟩
      rw [befores, befores_pre l _ _ (by have := hok.1 e he; simp; omega)]
      have := hok.1 e he
      simpa [List.getD, List.getElem?_append_left this] using hx
  | x :: l, acc, i + 1, o, h, hok, q, hq => by
    simp only [edgesOk, Bool.and_eq_true] at hok
    simp at h
    have := befores_spec l (acc ++ [x.after.toList.foldl (fun s e => if Region.binds .any e then s ||| 2 ^ e.on ||| acc.getD e.on 0 else s) 0]) i o h (by simpa using hok.2) q (by
      rw [befores] at hq
      rw [show (acc ++ [x.after.toList.foldl (fun s e => if Region.binds .any e then s ||| 2 ^ e.on ||| acc.getD e.on 0 else s) 0]).length + i = acc.length + (i + 1) by simp; omega]
      exact hq)
    rw [befores]
    exact this

section
variable {P : Program} {tab : Tab} {T : Specs} {ck : Callk} {B lo : Nat} {w0 : World} {St0 : Nat → Nat → Prop} {fs : List (List AV × List Value)}

/-- What has been done, of the operations in a list. -/
def doneBy (ds : List Dl) (L : List Nat) (σ : Sg) : Sg := L.foldl (fun s j => match ds[j]? with | some d => d.app s | none => s) σ

theorem app_env_len (d : Dl) (σ : Sg) : (d.app σ).env.length = σ.env.length := putD_length _ _ _
theorem app_heap_len (d : Dl) (σ : Sg) : (d.app σ).heap.length = σ.heap.length := setH_length _ _

theorem doneBy_cons (ds : List Dl) (j : Nat) (L : List Nat) (σ : Sg) : doneBy ds (j :: L) σ = doneBy ds L (match ds[j]? with | some d => d.app σ | none => σ) := rfl
theorem doneBy_append (ds : List Dl) (L L' : List Nat) (σ : Sg) : doneBy ds (L ++ L') σ = doneBy ds L' (doneBy ds L σ) := by simp [doneBy]

theorem doneBy_heap_len (ds : List Dl) : ∀ (L : List Nat) (σ : Sg), (doneBy ds L σ).heap.length = σ.heap.length
  | [], σ => rfl
  | j :: L, σ => by
    rw [doneBy_cons, doneBy_heap_len ds L]
    split
    · exact app_heap_len _ _
    · rfl

theorem getD_set' {α : Type} (l : List α) (i j : Nat) (x d : α) : (l.set i x).getD j d = if i = j then (if i < l.length then x else d) else l.getD j d := by
  simp only [List.getD, List.getElem?_set]
  split
  · split <;> simp
  · rfl

/-- What a temporary holds hangs on the operations that write it. -/
theorem env_filter (ds : List Dl) (t : Nat) (p : Nat → Bool) (hp : ∀ j d, ds[j]? = some d → d.dst = some t → p j = true) : ∀ (L : List Nat) (σ σ' : Sg), σ.env.getD t .unk = σ'.env.getD t .unk → σ.env.length = σ'.env.length →
    (doneBy ds L σ).env.getD t .unk = (doneBy ds (L.filter p) σ').env.getD t .unk
  | [], σ, σ', h, _ => h
  | j :: L, σ, σ', h, hl => by
    rw [doneBy_cons]
    cases hj : ds[j]? with
    | none =>
      simp only
      cases hpj : p j with
      | true => rw [List.filter_cons_of_pos hpj, doneBy_cons, hj]; exact env_filter ds t p hp L σ σ' h hl
      | false => rw [List.filter_cons_of_neg (by simp [hpj])]; exact env_filter ds t p hp L σ σ' h hl
    | some d =>
      simp only
      cases hpj : p j with
      | true =>
        rw [List.filter_cons_of_pos hpj, doneBy_cons, hj]
        refine env_filter ds t p hp L _ _ ?_ (by simp [app_env_len, hl])
        simp only [Dl.app, putD]
        cases hd : d.dst with
        | none => exact h
        | some t' => simp only [getD_set', hl, h]
      | false =>
        rw [List.filter_cons_of_neg (by simp [hpj])]
        refine env_filter ds t p hp L _ _ ?_ (by simp [app_env_len, hl])
        simp only [Dl.app, putD]
        cases hd : d.dst with
        | none => exact h
        | some t' =>
          have hne : t' ≠ t := fun e => by subst e; have := hp j d hj hd; rw [hpj] at this; cases this
          simp only [getD_set', if_neg hne, h]

theorem heap_filter (ds : List Dl) (k : Nat) (p : Nat → Bool) (hp : ∀ j d ho, ds[j]? = some d → d.wr = some (k, ho) → p j = true) : ∀ (L : List Nat) (σ σ' : Sg), σ.heap.getD k .none = σ'.heap.getD k .none → σ.heap.length = σ'.heap.length →
    (doneBy ds L σ).heap.getD k .none = (doneBy ds (L.filter p) σ').heap.getD k .none
  | [], σ, σ', h, _ => h
  | j :: L, σ, σ', h, hl => by
    rw [doneBy_cons]
    cases hj : ds[j]? with
    | none =>
      simp only
      cases hpj : p j with
      | true => rw [List.filter_cons_of_pos hpj, doneBy_cons, hj]; exact heap_filter ds k p hp L σ σ' h hl
      | false => rw [List.filter_cons_of_neg (by simp [hpj])]; exact heap_filter ds k p hp L σ σ' h hl
    | some d =>
      simp only
      cases hpj : p j with
      | true =>
        rw [List.filter_cons_of_pos hpj, doneBy_cons, hj]
        refine heap_filter ds k p hp L _ _ ?_ (by simp [app_heap_len, hl])
        simp only [Dl.app, setH]
        cases hd : d.wr with
        | none => exact h
        | some x => obtain ⟨k', ho⟩ := x; simp only [getD_set', hl, h]
      | false =>
        rw [List.filter_cons_of_neg (by simp [hpj])]
        refine heap_filter ds k p hp L _ _ ?_ (by simp [app_heap_len, hl])
        simp only [Dl.app, setH]
        cases hd : d.wr with
        | none => exact h
        | some x =>
          obtain ⟨k', ho⟩ := x
          have hne : k' ≠ k := fun e => by subst e; have := hp j d ho hj hd; rw [hpj] at this; cases this
          simp only [getD_set', if_neg hne, h]

/-- What the trace says: each operation did, behind those ahead of it, just that. -/
theorem trace_spec {ops : List Oper} {base : Nat} : ∀ (l : List Oper) (i : Nat) (σ : Sg) (ds : List Dl) (ts : List (Option Nat)), trace tab T ops base i l σ = some (ds, ts) → ds.length = ts.length ∧ ds.length ≤ l.length ∧ l.length ≤ ds.length + 1 ∧
    ∀ j (hj : j < ds.length), ∃ o, l[j]? = some o ∧ stepD tab T ops (base + (i + j)) o (doneBy ds (List.range j) σ) = some ds[j] ∧
      ts[j]? = some (match gOf (doneBy ds (List.range j) σ).env ops o with | some g => touchV o (base + (i + j)) g (rawOf (doneBy ds (List.range j) σ).env o) | none => none)
  | [], i, σ, ds, ts, h => by
    simp only [trace, Option.some.injEq, Prod.mk.injEq] at h
    obtain ⟨rfl, rfl⟩ := h
    exact ⟨rfl, by simp, by simp, fun j hj => by simp at hj⟩
  | o :: l, i, σ, ds, ts, h => by
    simp only [trace] at h
    split at h
    · rename_i d hd
      split at h
      · rename_i ds' ts' hr
        simp only [Option.some.injEq, Prod.mk.injEq] at h
        obtain ⟨rfl, rfl⟩ := h
        obtain ⟨h1, h2, h3, h4⟩ := trace_spec l (i + 1) (d.app σ) ds' ts' hr
        refine ⟨by simp [h1], by simp; omega, by simp; omega, fun j hj => ?_⟩
        cases j with
        | zero => exact ⟨o, rfl, hd, rfl⟩
        | succ j =>
          obtain ⟨o', g1, g2, g3⟩ := h4 j (by simpa using hj)
          have hdone : doneBy (d :: ds') (List.range (j + 1)) σ = doneBy ds' (List.range j) (d.app σ) := by
            rw [List.range_succ_eq_map, doneBy_cons]
            simp only [List.getElem?_cons_zero, doneBy, List.foldl_map, List.getElem?_cons_succ, Nat.succ_eq_add_one]
          refine ⟨o', by simpa using g1, ?_, ?_⟩
          · rw [hdone, show i + (j + 1) = i + 1 + j by omega]; simpa using g2
          · rw [hdone, show i + (j + 1) = i + 1 + j by omega]; simpa using g3
      · cases h
    · split at h
      · simp only [Option.some.injEq, Prod.mk.injEq] at h
        obtain ⟨rfl, rfl⟩ := h
        exact ⟨rfl, by simp, by simp, fun j hj => by simp at hj⟩
      · cases h

/-- What the run says: all conditions are met; the rest gives r. -/
theorem run_spec {ops : List Oper} {base : Nat} {k : Sg → Option AV} {r : AV} : ∀ (l : List Oper) (i : Nat) (σ : Sg) (ds : List Dl) (ts : List (Option Nat)), trace tab T ops base i l σ = some (ds, ts) → runOps tab T ck ops base i l σ k = some r →
    (∀ d ∈ ds, d.chk = true) ∧ (ds.length = l.length → k (doneBy ds (List.range ds.length) σ) = some r) ∧
    (l.length = ds.length + 1 → ∃ o, l[ds.length]? = some o ∧ ((∃ fr out heap', mstep tab o (doneBy ds (List.range ds.length) σ) fr = some (true, out, heap') ∧ k ⟨putD (doneBy ds (List.range ds.length) σ).env o.dst out, heap'⟩ = some r) ∨
      ∃ f args, enters o (doneBy ds (List.range ds.length) σ).env = some (f, args) ∧
      ck.call f args (doneBy ds (List.range ds.length) σ).heap (fun res heap' => k ⟨putD (doneBy ds (List.range ds.length) σ).env o.dst res, heap'⟩) = some r))
  | [], i, σ, ds, ts, h, hr => by
    simp only [trace, Option.some.injEq, Prod.mk.injEq] at h
    obtain ⟨rfl, rfl⟩ := h
    exact ⟨by simp, fun _ => hr, fun h => by simp at h⟩
  | o :: l, i, σ, ds, ts, h, hr => by
    simp only [trace] at h
    simp only [runOps] at hr
    split at h
    · rename_i d hd
      simp only [hd] at hr
      split at h
      · rename_i ds' ts' htr
        simp only [Option.some.injEq, Prod.mk.injEq] at h
        obtain ⟨rfl, rfl⟩ := h
        cases hc : d.chk with
        | false => rw [hc] at hr; cases hr
        | true =>
          rw [hc] at hr
          obtain ⟨h1, h2, h3⟩ := run_spec l (i + 1) (d.app σ) ds' ts' htr hr
          have hdone : doneBy (d :: ds') (List.range (ds'.length + 1)) σ = doneBy ds' (List.range ds'.length) (d.app σ) := by
            rw [List.range_succ_eq_map, doneBy_cons]
            simp only [List.getElem?_cons_zero, doneBy, List.foldl_map, List.getElem?_cons_succ, Nat.succ_eq_add_one]
          refine ⟨fun x hx => ?_, fun hl => ?_, fun hl => ?_⟩
          · rcases List.mem_cons.1 hx with rfl | hx
            · exact hc
            · exact h1 x hx
          · simp only [List.length_cons]
            rw [hdone]
            exact h2 (by simpa using hl)
          · simp only [List.length_cons]
            rw [hdone]
            obtain ⟨o', q1, q2⟩ := h3 (by simpa using hl)
            exact ⟨o', by simpa using q1, q2⟩
      · cases h
    · rename_i hd
      simp only [hd] at hr
      split at h
      · simp only [Option.some.injEq, Prod.mk.injEq] at h
        obtain ⟨rfl, rfl⟩ := h
        refine ⟨by simp, fun hl => by simp at hl, fun _ => ?_⟩
        split at hr
        · rename_i b out heap' hm
          cases b with
          | false => cases hr
          | true => exact ⟨o, rfl, .inl ⟨_, out, heap', hm, hr⟩⟩
        · split at hr
          · rename_i f args he
            exact ⟨o, rfl, .inr ⟨f, args, he, hr⟩⟩
          · cases hr
      · cases h

end
end Go.Proofs.Ytfeijnbommgigaa.Abs
