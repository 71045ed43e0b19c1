/- Topics and mailboxes compared; names. -/
import Derived.Test.YtamkkpdhponhnaaPn
import Derived.Test.YtamkkpdhponhnaaPMailboxAllx3
namespace Go.Proofs.Ytamkkpdhponhnaa.Nw
open Go.RowKit Go.Proofs.Ytamkkpdhponhnaa.Ow Go.Proofs.Ytamkkpdhponhnaa.PMailboxAll Go.Proofs.YtamkkpdhponhnaaW.PrintWords
set_option linter.unusedVariables false
set_option linter.unusedSimpArgs false

theorem sameT_ends (xs ys : List S56) (hl : xs.length = ys.length) (hb : xs.length ≤ 1000000) : ∀ (d k : Nat) (i : Int), 0 ≤ i → i ≤ xs.length → (xs.length : Int) - i = d → d < k →
    ∃ r, api_Topic_37.l0 k xs ys xs.length i = some r := by
  intro d
  induction d with
  | zero =>
    intro k i h0 h1 hd hk
    obtain ⟨k, rfl⟩ : ∃ m, k = m + 1 := ⟨k - 1, by omega⟩
    exact ⟨true, by simp only [api_Topic_37.l0]; rw [if_neg (by omega)]⟩
  | succ d ih =>
    intro k i h0 h1 hd hk
    obtain ⟨k, rfl⟩ : ∃ m, k = m + 1 := ⟨k - 1, by omega⟩
    simp only [api_Topic_37.l0]
    rw [if_pos (by omega), if_pos h0, if_pos (by omega), if_pos (by omega), wrap_succ h0 (by omega)]
    split
    · exact ⟨false, rfl⟩
    · exact ih k (i + 1) (by omega) (by omega) (by omega) (by omega)

theorem sameT_self0 (xs : List S56) (hb : xs.length ≤ 1000000) : ∀ (d k : Nat) (i : Int), 0 ≤ i → i ≤ xs.length → (xs.length : Int) - i = d → d < k →
    api_Topic_37.l0 k xs xs xs.length i = some true := by
  intro d
  induction d with
  | zero =>
    intro k i h0 h1 hd hk
    obtain ⟨k, rfl⟩ : ∃ m, k = m + 1 := ⟨k - 1, by omega⟩
    simp only [api_Topic_37.l0]; rw [if_neg (by omega)]
  | succ d ih =>
    intro k i h0 h1 hd hk
    obtain ⟨k, rfl⟩ : ∃ m, k = m + 1 := ⟨k - 1, by omega⟩
    simp only [api_Topic_37.l0]
    rw [if_pos (by omega), if_pos h0, if_pos (by omega), wrap_succ h0 (by omega), if_pos (by omega), if_neg (by simp)]
    exact ih k (i + 1) (by omega) (by omega) (by omega) (by omega)

/-- Do two lists hold the same packets? -/
def sameT (xs ys : List S56) : Bool := (api_Topic_37.f (xs.length + 1) xs ys).getD false
theorem sameT_any (xs ys : List S56) (hb : xs.length ≤ 1000000) : api_Topic_37.f (xs.length + 1) xs ys = some (sameT xs ys) := by
  have : ∃ r, api_Topic_37.f (xs.length + 1) xs ys = some r := by
    unfold api_Topic_37.f
    by_cases h : (xs.length : Int) = ys.length
    · rw [if_pos h]
      exact sameT_ends xs ys (by omega) hb xs.length _ 0 (by omega) (by omega) (by omega) (by omega)
    · rw [if_neg h]; exact ⟨false, rfl⟩
  obtain ⟨r, hr⟩ := this
  unfold sameT
  rw [hr]; rfl
theorem sameT_self (xs : List S56) (hb : xs.length ≤ 1000000) : sameT xs xs = true := by
  unfold sameT api_Topic_37.f
  rw [if_pos rfl, sameT_self0 xs hb xs.length _ 0 (by omega) (by omega) (by omega) (by omega)]
  rfl

theorem LeO_upT {α : Type} {f : Nat → Option α} (hm : ∀ k, LeO (f k) (f (k + 1))) {a b : Nat} (hab : a ≤ b) {r : α} (h : f a = some r) : f b = some r := by
  induction hab with
  | refl => exact h
  | step _ ih => exact hm _ _ ih
theorem sameT_loops (ls ms : List S41) : ∀ (k : Nat) (xs ys : List S56) (n i : Int), keyeventref41_Same.l0 k n i xs ls ys ms = api_Topic_37.l0 k xs ys n i := by
  intro k
  induction k with
  | zero => intro xs ys n i; rfl
  | succ k ih => intro xs ys n i; simp only [api_Topic_37.l0, keyeventref41_Same.l0, ih]
/-- Are two mailboxes the same? -/
def sameM (ts : List S56) (ls : List S41) (us : List S56) (ms : List S41) : Bool := sameT ts us && sameL ls ms
theorem sameM_self (ts : List S56) (ls : List S41) (hb : ts.length ≤ 1000000) (hb' : ls.length ≤ 1000000) : sameM ts ls ts ls = true := by
  unfold sameM; rw [sameT_self ts hb, sameL_self ls hb']; rfl
theorem sameM_f (ts : List S56) (ls : List S41) (us : List S56) (ms : List S41) (hb : ts.length ≤ 1000000) (hb' : ls.length ≤ 1000000) :
    mailbox_Same.f (ts.length + ls.length + 2) ts ls us ms = some (sameM ts ls us ms) := by
  have h1 := LeO_upT (f := fun k => api_Topic_37.f k ts us) (fun k => api_Topic_37.mono ts us k) (show ts.length + 1 ≤ ts.length + ls.length + 2 by omega) (sameT_any ts us hb)
  have h2 := LeO_upT (f := fun k => api_Letter_38.f k ls ms) (fun k => api_Letter_38.mono ls ms k) (show ls.length + 1 ≤ ts.length + ls.length + 2 by omega) (sameL_any ls ms hb')
  unfold mailbox_Same.f sameM
  rw [h1, h2]
  cases sameT ts us <;> simp
theorem sameM_g (ts : List S56) (ls : List S41) (us : List S56) (ms : List S41) (hb : ts.length ≤ 1000000) (hb' : ls.length ≤ 1000000) :
    keyeventref41_Same.f (ts.length + ls.length + 2) ts ls us ms = some (sameM ts ls us ms) := by
  have h1 := LeO_upT (f := fun k => api_Topic_37.f k ts us) (fun k => api_Topic_37.mono ts us k) (show ts.length + 1 ≤ ts.length + ls.length + 1 by omega) (sameT_any ts us hb)
  have h2 := LeO_upT (f := fun k => keyeventref41_SameLetters.f k ls ms) (fun k => keyeventref41_SameLetters.mono ls ms k) (show ls.length + 1 ≤ ts.length + ls.length + 2 by omega) (sameL_ref ls ms hb')
  unfold keyeventref41_Same.f sameM
  unfold api_Topic_37.f at h1
  rw [h2]
  split
  · rename_i hl
    rw [if_pos hl] at h1
    simp only [Option.bind, keyeventref41_Same.j0, sameT_loops, h1]
    cases sameL ls ms <;> simp
  · rename_i hl
    rw [if_neg hl] at h1
    have : sameT ts us = false := (Option.some.inj h1).symm
    rw [this]
    simp [keyeventref41_Same.j0]
theorem sameM_any (A : Option Addr) (n c : Nat) (A2 : Option Addr) (n2 c2 : Nat) (B : Option Addr) (m d : Nat) (B2 : Option Addr) (m2 d2 : Nat) (ts : List S56) (ls : List S41) (us : List S56) (ms : List S41) (w : World) (hx : Rd dt w (.slice A n c) ts) (hx2 : Rd dl w (.slice A2 n2 c2) ls) (hy : Rd dt w (.slice B m d) us) (hy2 : Rd dl w (.slice B2 m2 d2) ms) (hb : ts.length ≤ 1000000) (hb2 : ls.length ≤ 1000000) :
    Calls Try.prog 21 #[.agg #[.slice A n c, .slice A2 n2 c2], .agg #[.slice B m d, .slice B2 m2 d2]] w fun e w' => e = .returned (.bool (sameM ts ls us ms)) ∧ Below w.heap.size w w' := by
  obtain rfl := hx.len
  obtain rfl := hy.len
  obtain rfl := hx2.len
  obtain rfl := hy2.len
  exact mailbox_Same.calls (ts.length + ls.length + 2) A c ts A2 c2 ls B d us B2 d2 ms _ w (CT_of_rd hx) hx.cap.1 (CL_of_rd hx2) hx2.cap.1 (CT_of_rd hy) hy.cap.1 (CL_of_rd hy2) hy2.cap.1 (sameM_f ts ls us ms hb hb2)
theorem sameM_ref (A : Option Addr) (n c : Nat) (A2 : Option Addr) (n2 c2 : Nat) (B : Option Addr) (m d : Nat) (B2 : Option Addr) (m2 d2 : Nat) (ts : List S56) (ls : List S41) (us : List S56) (ms : List S41) (w : World) (hx : Rd dt w (.slice A n c) ts) (hx2 : Rd dl w (.slice A2 n2 c2) ls) (hy : Rd dt w (.slice B m d) us) (hy2 : Rd dl w (.slice B2 m2 d2) ms) (hb : ts.length ≤ 1000000) (hb2 : ls.length ≤ 1000000) :
    Calls Try.prog 20 #[.agg #[.slice A n c, .slice A2 n2 c2], .agg #[.slice B m d, .slice B2 m2 d2]] w fun e w' => e = .returned (.bool (sameM ts ls us ms)) ∧ Below w.heap.size w w' := by
  obtain rfl := hx.len
  obtain rfl := hy.len
  obtain rfl := hx2.len
  obtain rfl := hy2.len
  exact keyeventref41_Same.calls (ts.length + ls.length + 2) A c ts A2 c2 ls B d us B2 d2 ms _ w (CT_of_rd hx) hx.cap.1 (CL_of_rd hx2) hx2.cap.1 (CT_of_rd hy) hy.cap.1 (CL_of_rd hy2) hy2.cap.1 (sameM_g ts ls us ms hb hb2)
/-- Is this a name? -/
def nameP (s : ByteArray) : Bool := (schema_Name.f 40 s).getD false
theorem name_loops (s : ByteArray) (hs : s.size ≤ 32) : ∀ (d k : Nat) (i : Int), 1 ≤ i → i ≤ s.size → (s.size : Int) - i = d → d < k →
    ∃ r, schema_Name.l0 k s s.size i = some r ∧ keyeventref32_Name.l0 k s i = some r := by
  intro d
  induction d with
  | zero =>
    intro k i h0 h1 hd hk
    obtain ⟨k, rfl⟩ : ∃ m, k = m + 1 := ⟨k - 1, by omega⟩
    exact ⟨true, by simp only [schema_Name.l0]; rw [if_neg (by omega)], by simp only [keyeventref32_Name.l0]; rw [if_neg (by omega)]⟩
  | succ d ih =>
    intro k i h0 h1 hd hk
    obtain ⟨k, rfl⟩ : ∃ m, k = m + 1 := ⟨k - 1, by omega⟩
    obtain ⟨r, ha, hb⟩ := ih k (i + 1) (by omega) (by omega) (by omega) (by omega)
    simp only [schema_Name.l0, keyeventref32_Name.l0]
    have a1 : i < (s.size : Int) := by omega
    have a2 : (0 : Int) ≤ i := by omega
    have a3 : ¬ i = 0 := by omega
    simp only [wrap_succ a2 (show i ≤ 1000000000 by omega), ha, hb, a1, a2, a3, ↓reduceIte]
    by_cases g1 : bt s i ≥ 97 <;> by_cases g2 : bt s i ≤ 122 <;> by_cases g3 : bt s i = 95 <;> by_cases g4 : bt s i < 48 <;> by_cases g5 : bt s i > 57 <;>
      first
      | (exfalso; omega)
      | (simp only [g1, g2, g3, g4, g5, show (bt s i ≥ 48) = ¬ (bt s i < 48) from by simp, show (bt s i ≤ 57) = ¬ (bt s i > 57) from by simp]; simp)
theorem name_both0 (s : ByteArray) (K : Nat) (hK : 33 ≤ K) : ∃ r, schema_Name.f (K + 1 + 1) s = some r ∧ keyeventref32_Name.f (K + 1 + 1) s = some r := by
  unfold schema_Name.f keyeventref32_Name.f
  by_cases h0 : (s.size : Int) = 0
  · rw [if_pos h0, if_pos (by omega)]
    exact ⟨false, by simp [schema_Name.j0], by simp [keyeventref32_Name.j0]⟩
  rw [if_neg h0, if_neg (by omega)]
  by_cases h1 : (s.size : Int) > 32
  · rw [if_pos h1]
    exact ⟨false, by simp [schema_Name.j0, h1], by simp [keyeventref32_Name.j0]⟩
  rw [if_neg h1, if_pos (by omega), decide_eq_false h1]
  obtain ⟨r, ha, hb⟩ := name_loops s (by omega) (s.size - 1) K 1 (by omega) (by omega) (by omega) (by omega)
  by_cases g1 : bt s 0 ≥ 97
  · rw [if_neg (by omega)]
    by_cases g2 : bt s 0 ≤ 122
    · refine ⟨r, ?_, ?_⟩
      · simp only [schema_Name.j0, schema_Name.l0]
        rw [if_neg (by simp), if_pos (by omega), if_pos (by omega), if_pos (by omega), if_pos g1, if_pos g2]; simpa [wrap64] using ha
      · simp only [keyeventref32_Name.j0, keyeventref32_Name.l0]
        rw [if_neg (by simp; omega), if_pos (by omega), if_pos (by omega), if_pos g1, if_pos g2]; simpa [wrap64] using hb
    · refine ⟨false, ?_, ?_⟩
      · simp only [schema_Name.j0, schema_Name.l0]
        rw [if_neg (by simp), if_pos (by omega), if_pos (by omega), if_pos (by omega), if_pos g1, if_neg g2]; simp
      · simp only [keyeventref32_Name.j0]
        rw [if_pos (by simp; omega)]
  · rw [if_pos (by omega)]
    refine ⟨false, ?_, ?_⟩
    · simp only [schema_Name.j0, schema_Name.l0]
      rw [if_neg (by simp), if_pos (by omega), if_pos (by omega), if_pos (by omega), if_neg g1]; simp
    · simp only [keyeventref32_Name.j0]; simp
theorem name_both (s : ByteArray) : schema_Name.f 40 s = some (nameP s) ∧ keyeventref32_Name.f 40 s = some (nameP s) := by
  obtain ⟨r, ha, hb⟩ := name_both0 s 38 (by omega)
  unfold nameP
  exact ⟨by rw [show schema_Name.f 40 s = some r from ha]; rfl, by rw [show schema_Name.f 40 s = some r from ha]; exact hb⟩
theorem name_any (s : ByteArray) (w : World) : Calls Try.prog 29 #[.string s] w fun e w' => e = .returned (.bool (nameP s)) ∧ Below w.heap.size w w' :=
  (schema_Name.calls 40 s _ w (name_both s).1).mono fun e w' ⟨he, hk⟩ => ⟨he, by first | exact hk | (obtain ⟨k, hk⟩ := hk; rw [hk]; exact bel_drewN (Below.refl _ _) _)⟩
theorem name_ref (s : ByteArray) (w : World) : Calls Try.prog 35 #[.string s] w fun e w' => e = .returned (.bool (nameP s)) ∧ Below w.heap.size w w' :=
  (keyeventref32_Name.calls 40 s _ w (name_both s).2).mono fun e w' ⟨he, hk⟩ => ⟨he, by first | exact hk | (obtain ⟨k, hk⟩ := hk; rw [hk]; exact bel_drewN (Below.refl _ _) _)⟩
theorem name_mill : nameP ⟨#[109, 105, 108, 108]⟩ = true := by decide +kernel
theorem name_ford : nameP ⟨#[102, 111, 114, 100]⟩ = true := by decide +kernel
theorem name_bridge : nameP ⟨#[98, 114, 105, 100, 103, 101]⟩ = true := by decide +kernel
end Go.Proofs.Ytamkkpdhponhnaa.Nw
