/-
  Layer 14: what stays right; all entries; the same buffers; a new one: contracts.
-/
import Derived.Test.YtngpjdieelcbmaaDoorTlbb
namespace Go.Proofs.YtngpjdieelcbmaaDoor.Sx
open Go
set_option linter.unusedVariables false
set_option linter.unusedSimpArgs false
set_option maxRecDepth 100000

/-! ### what stays right -/
theorem TR.way {ts : List SetD} (h : TR ts) {j : Nat} {s : SetD} (hs : ts[j]? = some s) {k : Nat} (hk : k < 4) : wayOk ts.length j (s.at k) = true := (setOk_iff.1 ((rightT_iff.1 h.right).2 j s hs)).2 k hk
theorem TR.set_ok {ts : List SetD} (h : TR ts) {j : Nat} {s : SetD} (hs : ts[j]? = some s) : s.Ok := h.ok s (List.mem_of_getElem? hs)
theorem TR.setTo {ts : List SetD} (h : TR ts) {j : Nat} {s : SetD} (hr : s.right = true) (ho : s.Ok) (hw : ∀ k, k < 4 → wayOk ts.length j (s.at k) = true) : TR (ts.set j s) := by
  refine ⟨rightT_iff.2 ⟨by rw [List.length_set]; exact h.len, fun q x hx => ?_⟩, fun x hx => ?_⟩
  · rw [List.length_set]
    rw [List.getElem?_set] at hx
    split at hx
    · split at hx
      · obtain rfl : s = x := by simpa using hx
        rename_i hq _
        subst hq
        exact setOk_iff.2 ⟨hr, hw⟩
      · cases hx
    · exact (rightT_iff.1 h.right).2 q x hx
  · rcases List.mem_or_eq_of_mem_set hx with h1 | h1
    · exact h.ok x h1
    · rw [h1]; exact ho
theorem use_at {s : SetD} {k q : Nat} : (s.use k).at q = s.at q := by
  unfold SetD.at SetD.use
  split <;> rfl
theorem use_right {s : SetD} {k : Nat} (h : s.right = true) (hk : k < 4) : (s.use k).right = true := by
  obtain ⟨ht, m0, m1, m2, m3⟩ := SetD.right_may h
  simp only [SetD.right, SetD.use, Bool.and_eq_true]
  exact ⟨⟨⟨⟨decide_eq_true (touN_lt ht hk), m0⟩, m1⟩, m2⟩, m3⟩
theorem TR.use {ts : List SetD} (h : TR ts) {j k : Nat} {s : SetD} (hs : ts[j]? = some s) (hk : k < 4) : TR (ts.set j (s.use k)) := by
  have ho := h.set_ok hs
  exact h.setTo (use_right (h.set hs) hk) ⟨ho.w0, ho.w1, ho.w2, ho.w3⟩ (fun q hq => by rw [use_at]; exact h.way hs hq)
theorem sput_at {s : SetD} {k q : Nat} {e : En} (hk : k < 4) (hq : q < 4) : (s.put k e).at q = if q = k then e else s.at q := by
  have hcase : k = 0 ∨ k = 1 ∨ k = 2 ∨ k = 3 := by omega
  have hcase' : q = 0 ∨ q = 1 ∨ q = 2 ∨ q = 3 := by omega
  rcases hcase with rfl | rfl | rfl | rfl <;> rcases hcase' with rfl | rfl | rfl | rfl <;> rfl
theorem put_right {s : SetD} {k : Nat} {e : En} (h : s.right = true) (he : e.may = true) (hk : k < 4) : (s.put k e).right = true := by
  obtain ⟨ht, m0, m1, m2, m3⟩ := SetD.right_may h
  have hcase : k = 0 ∨ k = 1 ∨ k = 2 ∨ k = 3 := by omega
  rcases hcase with rfl | rfl | rfl | rfl <;> simp [SetD.right, SetD.put, *]
theorem put_ok {s : SetD} {k : Nat} {e : En} (h : s.Ok) (he : e.Ok) : (s.put k e).Ok := by
  unfold SetD.put
  split
  · exact ⟨he, h.w1, h.w2, h.w3⟩
  · exact ⟨h.w0, he, h.w2, h.w3⟩
  · exact ⟨h.w0, h.w1, he, h.w3⟩
  · exact ⟨h.w0, h.w1, h.w2, he⟩
theorem zero_ok : En.zero.Ok := ⟨by decide, by decide, by decide⟩
theorem TR.drop {ts : List SetD} (h : TR ts) {j k : Nat} {s : SetD} (hs : ts[j]? = some s) (hk : k < 4) : TR (ts.set j (s.put k En.zero)) := by
  refine h.setTo (put_right (h.set hs) (by decide) hk) (put_ok (h.set_ok hs) zero_ok) (fun q hq => ?_)
  rw [sput_at hk hq]
  split
  · rfl
  · exact h.way hs hq
theorem putW_at {e : En} {s : SetD} {k q : Nat} (hq : q < 4) : (putW e s k).at q = if k = q then e else dW e (s.at q) := by
  have hcase' : q = 0 ∨ q = 1 ∨ q = 2 ∨ q = 3 := by omega
  rcases hcase' with rfl | rfl | rfl | rfl <;> rfl
theorem setPutK_lt {s : SetD} {e : En} {v : Int} (h : s.t < 8) : setPutK s e v < 4 := goesF_lt (s := dropTo e s 4) (v := v) h
theorem setPut_W {s : SetD} {e : En} {v : Int} (h : s.t < 8) : setPut s e v = putW e s (setPutK s e v) := setPut_eq rfl (setPutK_lt h)
theorem TR.put1 {ts : List SetD} (h : TR ts) {j : Nat} {s : SetD} {e : En} {v : Int} (hs : ts[j]? = some s) (he : e.Ok) (hm : e.may = true) (hj : wayOk ts.length j e = true) : TR (ts.set j (setPut s e v)) := by
  have ht := h.tree hs
  have hk := setPutK_lt (e := e) (v := v) ht
  rw [setPut_W ht]
  refine h.setTo (putW_right (h.set hs) hm hk) (putW_ok (h.set_ok hs) he) (fun q hq => ?_)
  rw [putW_at hq]
  split
  · exact hj
  · unfold dW
    split
    · rfl
    · exact h.way hs hq
theorem putT_cases {ts : List SetD} {e : En} {v : Int} : ts = [] ∧ putT ts e v = [] ∨ ∃ s, ts[idxF ts.length e.vpn e.lv]? = some s ∧ putT ts e v = ts.set (idxF ts.length e.vpn e.lv) (setPut s e v) := by
  by_cases h : ts = []
  · subst h; exact .inl ⟨rfl, rfl⟩
  · right
    have hn : 0 < ts.length := List.length_pos_iff.2 h
    have hj := idxF_lt (vpn := e.vpn) (l := e.lv) hn
    refine ⟨_, List.getElem?_eq_getElem hj, ?_⟩
    rw [putT, List.getElem?_eq_getElem hj]
theorem putT_len {ts : List SetD} {e : En} {v : Int} : (putT ts e v).length = ts.length := by
  rcases putT_cases (ts := ts) (e := e) (v := v) with ⟨rfl, h⟩ | ⟨s, _, h⟩ <;> rw [h]
  rw [List.length_set]
theorem TR.put {ts : List SetD} (h : TR ts) {e : En} {v : Int} (he : e.Ok) (hm : e.may = true) : TR (putT ts e v) := by
  rcases putT_cases (ts := ts) (e := e) (v := v) with ⟨h0, h1⟩ | ⟨s, hs, h1⟩ <;> rw [h1]
  · rw [h0] at h; exact h
  · exact h.put1 hs he hm (by simp [wayOk])

/-! ### all entries -/
def SetD.en (s : SetD) : List En := [s.w0, s.w1, s.w2, s.w3]
def enT (ts : List SetD) : List En := ts.flatMap SetD.en
def allT (ts : List SetD) : List En := (enT ts).filter (·.v)
abbrev rws (ws : List En) : List (List D) := ws.map En.ds
theorem enT_len {ts : List SetD} : (enT ts).length = 4 * ts.length := by
  induction ts with
  | nil => rfl
  | cons s ts ih =>
    have : enT (s :: ts) = s.en ++ enT ts := rfl
    rw [this, List.length_append, ih, List.length_cons, show s.en.length = 4 from rfl]
    omega
theorem enT_take {ts : List SetD} {n : Nat} {s : SetD} (h : ts[n]? = some s) : enT (ts.take (n + 1)) = enT (ts.take n) ++ s.en := by
  rw [List.take_add_one, h, enT, List.flatMap_append]
  simp [enT]
theorem rws_row {ws : List En} {j : Nat} {e : En} (h : ws[j]? = some e) : (rws ws)[j]? = some e.ds := by
  rw [List.getElem?_map, h]; rfl
def mT (n : Nat) : Nat := if n = 0 then 0 else 11
theorem mT_pos {n : Nat} (h : 0 < n) : mT n = 11 := by unfold mT; rw [if_neg (by omega)]
def zeroRow : List Ex := [(.c (.b false)), (.c (.i .u64 0)), (.c (.b false)), (.c (.i .i64 0)), (.c (.i .u64 0)), (.c (.i .u64 0)), (.c (.b false)), (.c (.b false)), (.c (.b false)), (.c (.b false)), (.c (.b false))]

end Go.Proofs.YtngpjdieelcbmaaDoor.Sx
