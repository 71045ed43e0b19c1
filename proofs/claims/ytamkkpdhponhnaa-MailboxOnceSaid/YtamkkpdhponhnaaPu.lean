/- What Put and Drop keep. -/
import Derived.Test.YtamkkpdhponhnaaPq
import Derived.Test.YtamkkpdhponhnaaPl
namespace Go.Proofs.Ytamkkpdhponhnaa.Nw
open Go.RowKit Go.Proofs.Ytamkkpdhponhnaa.Ow Go.Proofs.Ytamkkpdhponhnaa.PMailboxAll Go.Proofs.YtamkkpdhponhnaaW.PrintWords
set_option linter.unusedVariables false
set_option linter.unusedSimpArgs false

theorem placeFrom_congr {p q : ByteArray} (h : p.toList = q.toList) : ∀ (ts : List S56) (n : Nat), placeFrom p ts n = placeFrom q ts n
  | [], _ => rfl
  | t :: ts, n => by unfold placeFrom; rw [h, placeFrom_congr h ts (n + 1)]
theorem placeI_congr {p q : ByteArray} (h : p.toList = q.toList) (ts : List S56) : placeI ts p = placeI ts q := placeFrom_congr h ts 0
theorem nextP_congr {p q : ByteArray} (h : p.toList = q.toList) (ts : List S56) : nextP ts p = nextP ts q := by unfold nextP; rw [placeI_congr h]
theorem placeFrom_name (p : ByteArray) : ∀ (ts : List S56) (n k : Nat), placeFrom p ts n = ((n + k : Nat) : Int) → ∃ t, ts[k]? = some t ∧ t.f0.toList = p.toList
  | [], n, k, h => by unfold placeFrom at h; omega
  | t :: ts, n, k, h => by
    unfold placeFrom at h
    split at h
    · rename_i e
      have : k = 0 := by omega
      subst this
      exact ⟨t, rfl, e⟩
    · have hb := placeFrom_bd p ts (n + 1)
      rcases hb with hb | ⟨j, hb, hj⟩
      · rw [hb] at h; omega
      · have : k = j + 1 := by rw [hb] at h; omega
        subst this
        obtain ⟨t', h1, h2⟩ := placeFrom_name p ts (n + 1) j hb
        exact ⟨t', by simpa using h1, h2⟩
theorem placeI_name {p : ByteArray} {ts : List S56} {k : Nat} (h : placeI ts p = (k : Int)) : ∃ t, ts[k]? = some t ∧ t.f0.toList = p.toList := placeFrom_name p ts 0 k (by rw [Nat.zero_add]; exact h)
theorem placeFrom_cons (p : ByteArray) (t : S56) (ts : List S56) (n : Nat) : placeFrom p (t :: ts) n = if t.f0.toList = p.toList then (n : Int) else placeFrom p ts (n + 1) := rfl
theorem placeFrom_append (p : ByteArray) : ∀ (ts us : List S56) (n : Nat), placeFrom p (ts ++ us) n = if placeFrom p ts n < 0 then placeFrom p us (n + ts.length) else placeFrom p ts n
  | [], us, n => by simp [placeFrom]
  | t :: ts, us, n => by
    rw [List.cons_append, placeFrom_cons, placeFrom_cons]
    split
    · rw [if_neg (by omega)]
    · rw [placeFrom_append p ts us (n + 1), List.length_cons, show n + 1 + ts.length = n + (ts.length + 1) by omega]
theorem placeFrom_set (p : ByteArray) : ∀ (ts : List S56) (n k : Nat) (t : S56) (z : Int), ts[k]? = some t → placeFrom p (ts.set k ⟨t.f0, z⟩) n = placeFrom p ts n
  | [], n, k, t, z, h => by simp at h
  | s :: ts, n, 0, t, z, h => by
    simp at h; subst h
    rw [List.set_cons_zero]; unfold placeFrom; rfl
  | s :: ts, n, k + 1, t, z, h => by
    rw [List.set_cons_succ]; unfold placeFrom
    rw [placeFrom_set p ts (n + 1) k t z (by simpa using h)]
theorem placeI_set (p : ByteArray) {ts : List S56} {k : Nat} {t : S56} (z : Int) (h : ts[k]? = some t) : placeI (ts.set k ⟨t.f0, z⟩) p = placeI ts p := placeFrom_set p ts 0 k t z h
theorem placeI_new (ts : List S56) (p q : ByteArray) (z : Int) : placeI (ts ++ [⟨p, z⟩]) q = if placeI ts q < 0 then (if p.toList = q.toList then (ts.length : Int) else -1) else placeI ts q := by
  unfold placeI
  rw [placeFrom_append, Nat.zero_add]
  rfl
theorem getD_some {ts : List S56} {k : Nat} {t : S56} (h : ts[k]? = some t) : ts.getD k z56 = t := by rw [List.getD_eq_getElem?_getD, h]; rfl
theorem nextP_at {ts : List S56} {p : ByteArray} {k : Nat} {t : S56} (h : placeI ts p = (k : Int)) (ht : ts[k]? = some t) : nextP ts p = t.f1 := by
  unfold nextP
  rw [if_neg (by omega), h, Int.toNat_natCast, getD_some ht]
/-- A letter that is taken. -/
theorem put_ok (ts : List S56) (ls : List S41) (p b : ByteArray) (hn : nameP p = true) (hb : b.size ≤ 65536) (hl : ls.length < 128) (ht : ts.length < 16) :
    ∃ ts', putR ts ls p b = (ts', ls ++ [⟨p, nextP ts p, b⟩], nextP ts p, 0) ∧ ts'.length ≤ ts.length + 1 ∧ 0 ≤ placeI ts' p ∧ nextP ts' p = wrap64 (nextP ts p + 1) ∧
      ∀ q, q.toList ≠ p.toList → placeI ts' q = placeI ts q ∧ nextP ts' q = nextP ts q := by
  unfold putR
  rw [if_neg (by rw [hn]; simp), if_neg (by omega), if_neg (by omega)]
  rcases placeI_bd ts p with h | ⟨k, h, hk⟩
  · rw [if_pos (by omega), if_neg (by omega)]
    have hnx : nextP ts p = 0 := by unfold nextP; rw [if_pos (by omega)]
    have e1 : bump (ts ++ [⟨p, 0⟩]) ts.length = ts ++ [⟨p, wrap64 (0 + 1)⟩] := by
      unfold bump
      have : (ts ++ [(⟨p, 0⟩ : S56)]).getD ts.length z56 = ⟨p, 0⟩ := by simp [List.getD_eq_getElem?_getD]
      rw [this, List.set_append_right _ _ (by omega), Nat.sub_self, List.set_cons_zero]
    refine ⟨ts ++ [⟨p, wrap64 (0 + 1)⟩], by rw [hnx, e1], by simp, ?_, ?_, ?_⟩
    · rw [placeI_new, if_pos (by omega), if_pos rfl]; omega
    · rw [hnx]
      refine nextP_at (k := ts.length) (t := ⟨p, wrap64 (0 + 1)⟩) ?_ (by simp)
      rw [placeI_new, if_pos (by omega), if_pos rfl]
    · intro q hq
      have e : placeI (ts ++ [⟨p, wrap64 (0 + 1)⟩]) q = placeI ts q := by
        rw [placeI_new]
        rcases placeI_bd ts q with h' | ⟨j, h', hj⟩
        · rw [if_pos (by omega), if_neg (fun e => hq e.symm), h']
        · rw [if_neg (by omega)]
      refine ⟨e, ?_⟩
      unfold nextP
      rw [e]
      rcases placeI_bd ts q with h' | ⟨j, h', hj⟩
      · rw [if_pos (by omega), if_pos (by omega)]
      · rw [if_neg (by omega), if_neg (by omega), h', Int.toNat_natCast, List.getD_eq_getElem?_getD, List.getElem?_append_left hj, ← List.getD_eq_getElem?_getD]
  · obtain ⟨t, h1, h2⟩ := placeI_name h
    have hnx := nextP_at h h1
    rw [if_neg (by omega), h, Int.toNat_natCast, getD_some h1]
    have e1 : bump ts k = ts.set k ⟨t.f0, wrap64 (t.f1 + 1)⟩ := by unfold bump; rw [getD_some h1]
    rw [e1]
    refine ⟨_, by rw [hnx], by simp, ?_, ?_, ?_⟩
    · rw [placeI_set _ _ h1]; omega
    · rw [hnx]
      exact nextP_at (k := k) (t := ⟨t.f0, wrap64 (t.f1 + 1)⟩) (by rw [placeI_set _ _ h1, h]) (by rw [List.getElem?_set_self (by omega)])
    · intro q hq
      refine ⟨placeI_set _ _ h1, ?_⟩
      unfold nextP
      rw [placeI_set _ _ h1]
      rcases placeI_bd ts q with h' | ⟨j, h', hj⟩
      · rw [if_pos (by omega), if_pos (by omega)]
      · rw [if_neg (by omega), if_neg (by omega), h', Int.toNat_natCast, List.getD_eq_getElem?_getD, List.getElem?_set_ne, ← List.getD_eq_getElem?_getD]
        rintro rfl
        obtain ⟨t', h3, h4⟩ := placeI_name h'
        rw [h1] at h3
        cases h3
        exact hq (h4.symm.trans h2)
/-- What holds of a mailbox that was filled. -/
structure Inv (c : Nat) (ts : List S56) (ls : List S41) : Prop where
  tl : ts.length ≤ c
  ll : ls.length ≤ c
  nx : ∀ q, 0 ≤ nextP ts q ∧ nextP ts q ≤ c
  le : ∀ l ∈ ls, 0 ≤ l.f1 ∧ l.f1 < nextP ts l.f0 ∧ 0 ≤ placeI ts l.f0
  up : ls.Pairwise (fun a b => a.f0.toList = b.f0.toList → a.f1 < b.f1)
theorem Inv.nil : Inv 0 [] [] := ⟨by simp, by simp, fun q => by unfold nextP placeI placeFrom; simp, fun l h => by simp at h, List.Pairwise.nil⟩
theorem Inv.filter {c : Nat} {ts : List S56} {ls : List S41} (h : Inv c ts ls) (f : S41 → Bool) : Inv c ts (ls.filter f) :=
  ⟨h.tl, Nat.le_trans (List.length_filter_le _ _) h.ll, h.nx, fun l hl => h.le l (List.mem_filter.1 hl).1, h.up.sublist List.filter_sublist⟩
theorem Inv.put {c : Nat} {ts ts' : List S56} {ls : List S41} {p b : ByteArray} {n : Int} (h : Inv c ts ls) (hc : c ≤ 1000) (hn : n = nextP ts p) (h1 : ts'.length ≤ ts.length + 1) (h2 : 0 ≤ placeI ts' p) (h3 : nextP ts' p = wrap64 (nextP ts p + 1))
    (h4 : ∀ q, q.toList ≠ p.toList → placeI ts' q = placeI ts q ∧ nextP ts' q = nextP ts q) : Inv (c + 1) ts' (ls ++ [⟨p, n, b⟩]) := by
  subst hn
  have hnx := h.nx p
  have hw : wrap64 (nextP ts p + 1) = nextP ts p + 1 := wrap_succ hnx.1 (by omega)
  rw [hw] at h3
  refine ⟨by have := h.tl; omega, by simp; exact h.ll, fun q => ?_, fun l hl => ?_, ?_⟩
  · by_cases e : q.toList = p.toList
    · rw [nextP_congr e, h3]; omega
    · rw [(h4 q e).2]; have := h.nx q; omega
  · rcases List.mem_append.1 hl with hl | hl
    · obtain ⟨a1, a2, a3⟩ := h.le l hl
      by_cases e : l.f0.toList = p.toList
      · rw [nextP_congr e] at a2 ⊢
        rw [placeI_congr e, h3]
        exact ⟨a1, by omega, h2⟩
      · rw [(h4 _ e).2, (h4 _ e).1]; exact ⟨a1, a2, a3⟩
    · simp at hl; subst hl
      exact ⟨hnx.1, by show _ < nextP ts' p; rw [h3]; show nextP ts p < _; omega, h2⟩
  · rw [List.pairwise_append]
    refine ⟨h.up, List.pairwise_singleton _ _, fun a ha b hb => ?_⟩
    simp at hb; subst hb
    intro e
    have := (h.le a ha).2.1
    rw [nextP_congr e] at this
    exact this
/-- A round of the filling. -/
theorem Inv.round {c : Nat} {ts : List S56} {ls : List S41} (h : Inv c ts ls) (hc : c ≤ 15) (p b : ByteArray) (hn : nameP p = true) (hb : b.size ≤ 65536) :
    ∃ ts' n, putR ts ls p b = (ts', ls ++ [⟨p, n, b⟩], n, 0) ∧ Inv (c + 1) ts' (ls ++ [⟨p, n, b⟩]) := by
  obtain ⟨ts', e, h1, h2, h3, h4⟩ := put_ok ts ls p b hn hb (by have := h.ll; omega) (by have := h.tl; omega)
  exact ⟨ts', _, e, h.put (by omega) rfl h1 h2 h3 h4⟩
end Go.Proofs.Ytamkkpdhponhnaa.Nw
