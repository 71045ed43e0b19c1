/- Forging: the plain law. -/
import Derived.Test.YtkcijghflaoccaaNw
import Derived.Test.YtkcijghflaoccaaNv
import Derived.Test.YtkcijghflaoccaaNp
namespace Go.Proofs.Ytkcijghflaoccaa.Nw
open Go.RowKit Go.Proofs.Ytkcijghflaoccaa.Ow Go.Proofs.Ytkcijghflaoccaa.PNetworkAll Go.Proofs.YtkcijghflaoccaaW.PrintWords
set_option linter.unusedVariables false
set_option linter.unusedSimpArgs false

set_option maxHeartbeats 400000 in
theorem modk_eq (n m : Int) (w : World) (h : 1 ≤ m) (h' : m ≤ 2000000000) :
    Calls Try.prog 24 #[.int .i64 n, .int .i64 m] w fun e w' => e = .returned (.int .i64 (modv n m)) ∧ w = w' := by
  have h1 := Int.tmod_lt_of_pos n (by omega : 0 < m)
  have h2 : -m < n.tmod m := Int.lt_tmod_of_pos n (by omega : 0 < m)
  have h3 : wrap64 (n.tmod m + m) = n.tmod m + m := by unfold wrap64; omega
  have h4 : (n.tmod m + m).tmod m = (n.tmod m + m) % m := Int.tmod_eq_emod_of_nonneg (by omega)
  have H : Hid (wrap64 (n.tmod m + m) = n.tmod m + m) := h3
  have H4 : Hid ((n.tmod m + m).tmod m = (n.tmod m + m) % m) := h4
  clear h3 h4
  go_enter Try.func24, Try.ntmps24
  go_wp2
  go_ret
  exact ⟨ret_int (by unfold modv; first | rfl | rw [H.out] | rw [H4.out]), rfl⟩

theorem modv_small {n m : Int} (h0 : 0 ≤ n) (hm : 1 ≤ m) : modv n m = n % m := by
  unfold modv
  have h1 : n.tmod m = n % m := Int.tmod_eq_emod_of_nonneg h0
  have h2 := Int.emod_nonneg n (show m ≠ 0 by omega)
  rw [h1, Int.tmod_eq_emod_of_nonneg (by omega), Int.add_emod_right, Int.emod_emod_of_dvd _ (Int.dvd_refl m)]

theorem doR_empty {xs : List S39} (h : S34) (hk : h.f0 = 5) (h0 : xs.length = 0) : doR xs h = (xs, [], 5) := by
  unfold doR
  rw [if_neg (by omega), if_pos h0]
theorem doR_forge {xs : List S39} (h : S34) (hk : h.f0 = 5) (h0 : xs.length ≠ 0) : doR xs h = (xs.set (spot xs h) (forged (xs.getD (spot xs h) z39) h), [], 0) := by
  unfold doR
  rw [if_neg (by omega), if_neg h0]
  dsimp only
  rw [if_neg (by omega), if_neg (by omega), if_neg (by omega), if_neg (by omega)]

/-- A byte of a string. -/
def byteAt (s : ByteArray) (i : Nat) : UInt8 := s.data.toList.getD i 0
theorem forge_back (s : ByteArray) (p v : Int) (hs : s.size ≠ 0) : forge (forge s p v) p ((byteAt s (modv p s.size).toNat).toNat : Int) = s := by
  have hf : (forge s p v).size = s.size := forge_size s p v
  have hm := modv_bd p s.size (by omega)
  unfold forge at hf ⊢
  rw [if_neg hs] at hf ⊢
  rw [if_neg (by rw [hf]; exact hs), hf]
  have e : modv ((byteAt s (modv p s.size).toNat).toNat : Int) 256 = ((byteAt s (modv p s.size).toNat).toNat : Int) := by
    have := (byteAt s (modv p s.size).toNat).toNat_lt
    rw [modv_small (by omega) (by omega)]
    omega
  rw [e]
  have hlt : (modv p s.size).toNat < s.data.toList.length := by simp; omega
  apply ByteArray.ext
  apply Array.toList_inj.1
  simp only [List.set_set, Int.toNat_natCast]
  rw [show UInt8.ofNat (byteAt s (modv p s.size).toNat).toNat = byteAt s (modv p s.size).toNat from by simp]
  unfold byteAt
  rw [List.getD_eq_getElem?_getD, List.getElem?_eq_getElem hlt, Option.getD_some, List.set_getElem_self]
theorem forge_at (s : ByteArray) (p v : Int) (hs : s.size ≠ 0) : ((byteAt (forge s p v) (modv p s.size).toNat).toNat : Int) = modv v 256 := by
  have hm := modv_bd p s.size (by omega)
  have hv := modv_bd v 256 (by omega)
  unfold forge byteAt
  rw [if_neg hs]
  have hlt : (modv p s.size).toNat < s.data.toList.length := by simp; omega
  simp only
  rw [List.getD_eq_getElem?_getD, List.getElem?_eq_getElem (by rw [List.length_set]; exact hlt), Option.getD_some, List.getElem_set_self]
  simp
  omega
theorem set_self' {xs : List S39} {k : Nat} {x : S39} (h : xs[k]? = some x) : xs.set k x = xs := by
  obtain ⟨h1, h2⟩ := List.getElem?_eq_some_iff.1 h
  rw [← h2]; exact List.set_getElem_self h1
theorem forge_twice {xs : List S39} {k : Nat} {x : S39} (hx : xs[k]? = some x) (h h' : S34) (hk : modv h.f1 xs.length = (k : Int)) (hs : x.f2.size ≠ 0) {b : Nat} (hb : modv h.f2 x.f2.size = (b : Int))
    (e0 : h'.f0 = 5) (e1 : h'.f1 = h.f1) (e2 : h'.f2 = h.f2) (e3 : h'.f3 = ((byteAt x.f2 b).toNat : Int)) : doR (xs.set k (forged x h)) h' = (xs, [], 0) := by
  have hl := (List.getElem?_eq_some_iff.1 hx).1
  have ls : (xs.set k (forged x h)).length = xs.length := List.length_set
  have h0 : (xs.set k (forged x h)).length ≠ 0 := by omega
  rw [doR_forge h' e0 h0]
  have hsp : spot (xs.set k (forged x h)) h' = k := by unfold spot; rw [ls, e1, hk]; simp
  rw [hsp]
  have hg : (xs.set k (forged x h)).getD k z39 = forged x h := by rw [List.getD_eq_getElem?_getD, List.getElem?_set_self hl]; rfl
  rw [hg, List.set_set]
  have hf : forged (forged x h) h' = x := by
    unfold forged
    dsimp only
    rw [e2, e3]
    have := forge_back x.f2 h.f2 h.f3 hs
    rw [hb] at this
    simp only [Int.toNat_natCast] at this
    rw [this]
  rw [hf, set_self' hx]
theorem byteAt_get (s : ByteArray) (b : Nat) (h : b < s.size) : byteAt s b = s[b] := by
  unfold byteAt
  rw [List.getD_eq_getElem?_getD, List.getElem?_eq_getElem (by simpa using h)]
  rfl
theorem iwrap_small {n : Int} (h0 : 0 ≤ n) (h1 : n ≤ 1000000) : IntKind.i64.wrap n = n := IntWalk.i64_in _ (by omega)
theorem iwrap_byte (s : ByteArray) (b : Nat) (h : b < s.size) : IntKind.i64.wrap (s[b].toNat : Int) = ((byteAt s b).toNat : Int) := by
  rw [byteAt_get s b h]
  have := s[b].toNat_lt
  exact IntWalk.i64_in _ (by omega)
theorem wrap_byte (s : ByteArray) (b : Nat) (h : b < s.size) : wrap64 (s[b].toNat : Int) = ((byteAt s b).toNat : Int) := by
  rw [byteAt_get s b h]
  have := s[b].toNat_lt
  unfold wrap64; omega
end Go.Proofs.Ytkcijghflaoccaa.Nw
