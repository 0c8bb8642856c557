/-
  Layer 14: what stays right; all entries; the same buffers; a new one: contracts.
-/
import Derived.Test.YtmjhghclgockjaaDoorTlbb
namespace Go.Proofs.YtmjhghclgockjaaDoor.Sx
open Go
set_option linter.unusedVariables false
set_option linter.unusedSimpArgs false
set_option maxRecDepth 100000

/-! ### what stays right -/
theorem TR.way {ts : List SetD} (h : TR ts) {j : Nat} {s : SetD} (hs : ts[j]? = some s) {k : Nat} (hk : k < 4) : wayOk ts.length j (s.at k) = true := (setOk_iff.1 ((rightT_iff.1 h.right).2 j s hs)).2 k hk
theorem TR.set_ok {ts : List SetD} (h : TR ts) {j : Nat} {s : SetD} (hs : ts[j]? = some s) : s.Ok := h.ok s (List.mem_of_getElem? hs)
theorem TR.setTo {ts : List SetD} (h : TR ts) {j : Nat} {s : SetD} (hr : s.right = true) (ho : s.Ok) (hw : ∀ k, k < 4 → wayOk ts.length j (s.at k) = true) : TR (ts.set j s) := by
  refine ⟨rightT_iff.2 ⟨by rw [List.length_set]; exact h.len, fun q x hx => ?_⟩, fun x hx => ?_⟩
  · rw [List.length_set]
    rw [List.getElem?_set] at hx
    split at hx
    · split at hx
      · obtain rfl : s = x := by simpa using hx
        rename_i hq _
        subst hq
        exact setOk_iff.2 ⟨hr, hw⟩
      · cases hx
    · exact (rightT_iff.1 h.right).2 q x hx
  · rcases List.mem_or_eq_of_mem_set hx with h1 | h1
    · exact h.ok x h1
    · rw [h1]; exact ho
theorem use_at {s : SetD} {k q : Nat} : (s.use k).at q = s.at q := by
  unfold SetD.at SetD.use
  split <;> rfl
theorem use_right {s : SetD} {k : Nat} (h : s.right = true) (hk : k < 4) : (s.use k).right = true := by
  obtain ⟨ht, m0, m1, m2, m3⟩ := SetD.right_may h
  simp only [SetD.right, SetD.use, Bool.and_eq_true]
  exact ⟨⟨⟨⟨decide_eq_true (touN_lt ht hk), m0⟩, m1⟩, m2⟩, m3⟩
theorem TR.use {ts : List SetD} (h : TR ts) {j k : Nat} {s : SetD} (hs : ts[j]? = some s) (hk : k < 4) : TR (ts.set j (s.use k)) := by
  have ho := h.set_ok hs
  exact h.setTo (use_right (h.set hs) hk) ⟨ho.w0, ho.w1, ho.w2, ho.w3⟩ (fun q hq => by rw [use_at]; exact h.way hs hq)
theorem sput_at {s : SetD} {k q : Nat} {e : En} (hk : k < 4) (hq : q < 4) : (s.put k e).at q = if q = k then e else s.at q := by
  have hcase : k = 0 ∨ k = 1 ∨ k = 2 ∨ k = 3 := by omega
  have hcase' : q = 0 ∨ q = 1 ∨ q = 2 ∨ q = 3 := by omega
  rcases hcase with rfl | rfl | rfl | rfl <;> rcases hcase' with rfl | rfl | rfl | rfl <;> rfl
theorem put_right {s : SetD} {k : Nat} {e : En} (h : s.right = true) (he : e.may = true) (hk : k < 4) : (s.put k e).right = true := by
  obtain ⟨ht, m0, m1, m2, m3⟩ := SetD.right_may h
  have hcase : k = 0 ∨ k = 1 ∨ k = 2 ∨ k = 3 := by omega
  rcases hcase with rfl | rfl | rfl | rfl <;> simp [SetD.right, SetD.put, *]
theorem put_ok {s : SetD} {k : Nat} {e : En} (h : s.Ok) (he : e.Ok) : (s.put k e).Ok := by
  unfold SetD.put
  split
  · exact ⟨he, h.w1, h.w2, h.w3⟩
  · exact ⟨h.w0, he, h.w2, h.w3⟩
  · exact ⟨h.w0, h.w1, he, h.w3⟩
  · exact ⟨h.w0, h.w1, h.w2, he⟩
theorem zero_ok : En.zero.Ok := ⟨by decide, by decide, by decide⟩
theorem TR.drop {ts : List SetD} (h : TR ts) {j k : Nat} {s : SetD} (hs : ts[j]? = some s) (hk : k < 4) : TR (ts.set j (s.put k En.zero)) := by
  refine h.setTo (put_right (h.set hs) (by decide) hk) (put_ok (h.set_ok hs) zero_ok) (fun q hq => ?_)
  rw [sput_at hk hq]
  split
  · rfl
  · exact h.way hs hq
theorem putW_at {e : En} {s : SetD} {k q : Nat} (hq : q < 4) : (putW e s k).at q = if k = q then e else dW e (s.at q) := by
  have hcase' : q = 0 ∨ q = 1 ∨ q = 2 ∨ q = 3 := by omega
  rcases hcase' with rfl | rfl | rfl | rfl <;> rfl
theorem setPutK_lt {s : SetD} {e : En} {v : Int} (h : s.t < 8) : setPutK s e v < 4 := goesF_lt (s := dropTo e s 4) (v := v) h
theorem setPut_W {s : SetD} {e : En} {v : Int} (h : s.t < 8) : setPut s e v = putW e s (setPutK s e v) := setPut_eq rfl (setPutK_lt h)
theorem TR.put1 {ts : List SetD} (h : TR ts) {j : Nat} {s : SetD} {e : En} {v : Int} (hs : ts[j]? = some s) (he : e.Ok) (hm : e.may = true) (hj : wayOk ts.length j e = true) : TR (ts.set j (setPut s e v)) := by
  have ht := h.tree hs
  have hk := setPutK_lt (e := e) (v := v) ht
  rw [setPut_W ht]
  refine h.setTo (putW_right (h.set hs) hm hk) (putW_ok (h.set_ok hs) he) (fun q hq => ?_)
  rw [putW_at hq]
  split
  · exact hj
  · unfold dW
    split
    · rfl
    · exact h.way hs hq
theorem putT_cases {ts : List SetD} {e : En} {v : Int} : ts = [] ∧ putT ts e v = [] ∨ ∃ s, ts[idxF ts.length e.vpn e.lv]? = some s ∧ putT ts e v = ts.set (idxF ts.length e.vpn e.lv) (setPut s e v) := by
  by_cases h : ts = []
  · subst h; exact .inl ⟨rfl, rfl⟩
  · right
    have hn : 0 < ts.length := List.length_pos_iff.2 h
    have hj := idxF_lt (vpn := e.vpn) (l := e.lv) hn
    refine ⟨_, List.getElem?_eq_getElem hj, ?_⟩
    rw [putT, List.getElem?_eq_getElem hj]
theorem putT_len {ts : List SetD} {e : En} {v : Int} : (putT ts e v).length = ts.length := by
  rcases putT_cases (ts := ts) (e := e) (v := v) with ⟨rfl, h⟩ | ⟨s, _, h⟩ <;> rw [h]
  rw [List.length_set]
theorem TR.put {ts : List SetD} (h : TR ts) {e : En} {v : Int} (he : e.Ok) (hm : e.may = true) : TR (putT ts e v) := by
  rcases putT_cases (ts := ts) (e := e) (v := v) with ⟨h0, h1⟩ | ⟨s, hs, h1⟩ <;> rw [h1]
  · rw [h0] at h; exact h
  · exact h.put1 hs he hm (by simp [wayOk])

/-! ### all entries -/
def SetD.en (s : SetD) : List En := [s.w0, s.w1, s.w2, s.w3]
def enT (ts : List SetD) : List En := ts.flatMap SetD.en
def allT (ts : List SetD) : List En := (enT ts).filter (·.v)
abbrev rws (ws : List En) : List (List D) := ws.map En.ds
theorem enT_len {ts : List SetD} : (enT ts).length = 4 * ts.length := by
  induction ts with
  | nil => rfl
  | cons s ts ih =>
    have : enT (s :: ts) = s.en ++ enT ts := rfl
    rw [this, List.length_append, ih, List.length_cons, show s.en.length = 4 from rfl]
    omega
theorem enT_take {ts : List SetD} {n : Nat} {s : SetD} (h : ts[n]? = some s) : enT (ts.take (n + 1)) = enT (ts.take n) ++ s.en := by
  rw [List.take_add_one, h, enT, List.flatMap_append]
  simp [enT]
section
variable {ρ : List D} {x y ix : Ex} {n m : Nat} {rows : List (List D)} {k : IntKind}
theorem one_e {xs : List Ex} {ds : List D} (h : Ex.evals ρ xs = some ds) (hn : ds.length = n) : (Ex.one xs).eval ρ = some (.sl n [ds]) := by
  simp only [Ex.eval, h, hn]
theorem cat_e {a b : List (List D)} (hx : x.eval ρ = some (.sl n a)) (hy : y.eval ρ = some (.sl n b)) : (Ex.cat x y).eval ρ = some (.sl n (a ++ b)) := by
  simp only [Ex.eval, hx, hy, catD]
  cases a
  · simp
  · cases b <;> simp
theorem app_e {a b : List (List D)} (hx : x.eval ρ = some (.sl m a)) (hy : y.eval ρ = some (.sl n b)) (h : m = n ∨ (m = 0 ∧ a = [])) (hb : b ≠ []) : (Ex.app n x y).eval ρ = some (.sl n (a ++ b)) := by
  simp only [Ex.eval, hx, hy, appD]
  rw [if_pos ⟨by rcases h with rfl | ⟨rfl, rfl⟩ <;> simp, .inl trivial⟩, if_neg (by simpa using hb)]
theorem app_any {a b : List (List D)} (hx : x.eval ρ = some (.sl n a)) (hy : y.eval ρ = some (.sl n b)) : (Ex.app n x y).eval ρ = some (.sl n (a ++ b)) := by
  simp only [Ex.eval, hx, hy, appD]
  rw [if_pos ⟨.inl trivial, .inl trivial⟩]
  cases b <;> simp
theorem room_i {b : Nat} (hx : x.eval ρ = some (I m)) (h : m * b ≤ 2 ^ 40) : (Ex.room x b).eval ρ = some (.b true) := by
  simp only [Ex.eval, hx]
  have : ((m : Nat) : Int) * (b : Int) ≤ 2 ^ 40 := by exact_mod_cast h
  rw [decide_eq_true this, decide_eq_true (show (0 : Int) ≤ (m : Int) by omega)]
  rfl
theorem bnd_t {lo hi top : Ex} {a b c : Nat} (h1 : lo.eval ρ = some (I a)) (h2 : hi.eval ρ = some (I b)) (h3 : top.eval ρ = some (I c)) (hab : a ≤ b) (hbc : b ≤ c) : (Ex.bnd lo hi top).eval ρ = some (.b true) := by
  simp only [Ex.eval, h1, h2, h3]
  rw [decide_eq_true (show (0 : Int) ≤ (a : Int) by omega), decide_eq_true (show (a : Int) ≤ (b : Int) by omega), decide_eq_true (show (b : Int) ≤ (c : Int) by omega)]
  rfl
theorem sub_e {lo hi : Ex} {a b : Nat} (hx : x.eval ρ = some (.sl n rows)) (h1 : lo.eval ρ = some (I a)) (h2 : hi.eval ρ = some (I b)) (hab : a ≤ b) (hbc : b ≤ rows.length) : (Ex.sub x lo hi).eval ρ = some (.sl n ((rows.take b).drop a)) := by
  simp only [Ex.eval, hx, h1, h2, subD]
  rw [if_pos (by omega)]
  rfl
theorem len_is {L : Nat} (hx : x.eval ρ = some (.sl n rows)) (hL : rows.length = L) : (Ex.len x).eval ρ = some (I L) := by
  rw [len_e hx, hL]
theorem len_sub_e {L p : Nat} (hx : x.eval ρ = some (.sl n rows)) (hL : rows.length = L) (hy : y.eval ρ = some (I p)) (h : p ≤ L) (hb : L < 9223372036854775807) : (Ex.bin .sub (.len x) y).eval ρ = some (I (L - p : Nat)) := by
  have := i_sub (len_is hx hL) hy (by omega) (by omega)
  rw [this, show (L : Int) - (p : Int) = ((L - p : Nat) : Int) by omega]
theorem es_cons {xs : List Ex} {d : D} {ds : List D} (hx : x.eval ρ = some d) (h : Ex.evals ρ xs = some ds) : Ex.evals ρ (x :: xs) = some (d :: ds) := by
  simp only [Ex.evals, hx, h]
theorem mk_e {zs : List Ex} {ds : List D} (hx : x.eval ρ = some (I m)) (h : Ex.evals ρ zs = some ds) (hn : ds.length = n) : (Ex.mk x zs).eval ρ = some (.sl n (List.replicate m ds)) := by
  simp only [Ex.eval, hx, h, hn]
  rw [if_pos (by omega)]
  rfl
end
theorem rws_row {ws : List En} {j : Nat} {e : En} (h : ws[j]? = some e) : (rws ws)[j]? = some e.ds := by
  rw [List.getElem?_map, h]; rfl
def mT (n : Nat) : Nat := if n = 0 then 0 else 11
theorem mT_pos {n : Nat} (h : 0 < n) : mT n = 11 := by unfold mT; rw [if_neg (by omega)]
def zeroRow : List Ex := [(.c (.b false)), (.c (.i .u64 0)), (.c (.b false)), (.c (.i .i64 0)), (.c (.i .u64 0)), (.c (.i .u64 0)), (.c (.b false)), (.c (.b false)), (.c (.b false)), (.c (.b false)), (.c (.b false))]

theorem tlbAll_con {ts : List SetD} (hl : ts.length ≤ 1000000) : Cn gAll 19 [tv ts] [(false, [.sl (mT ts.length) (rws (allT ts))])] := by
  refine con rfl rfl tlb_All_c tlb_All_p rfl ?_
  unfold tlb_All_ir
  simp only [lv_cons, lv_nil, app_cons, app_nil]
  refine wp_lt (len_e rfl) ?_
  simp only [lv_cons, lv_nil, app_cons, app_nil]
  rw [List.length_map]
  refine wp_rounds (fun m ds => ∃ n : Nat, ds = [I n, .sl (mT n) (rws (enT (ts.take n)))] ∧ n + m = ts.length + 1 ∧ n ≤ ts.length) (ts.length + 1) rfl ⟨0, rfl, by omega, by omega⟩ ?_
    (fun es hes => by obtain ⟨n, _, h1, h2⟩ := hes; omega)
  rintro m es Q ⟨n, rfl, hm, hle⟩ hQ
  simp only [lv_cons, lv_nil, app_cons, app_nil]
  refine wp_lt rfl ?_
  simp only [lv_cons, lv_nil, app_cons, app_nil]
  refine wp_ite rfl (fun hc => ?_) (fun hc => ?_)
  · have hc := of_decide_eq_true hc
    have hnl : n < ts.length := by omega
    obtain ⟨s, hs⟩ : ∃ s, ts[n]? = some s := ⟨_, List.getElem?_eq_getElem hnl⟩
    have hrow := row_of hs
    refine wp_chk (inb_t rfl rfl (by rw [List.length_map]; exact hnl)) ?_
    have hlen : (enT (ts.take n)).length = 4 * n := by rw [enT_len, List.length_take, Nat.min_eq_left hle]
    have happ : (Ex.app 11 (.v 3) (.cat (.one (idr (.v 0) (.v 2) 0 11)) (.cat (.one (idr (.v 0) (.v 2) 11 11)) (.cat (.one (idr (.v 0) (.v 2) 22 11)) (.one (idr (.v 0) (.v 2) 33 11)))))).eval [tlb ts, I ts.length, I n, .sl (mT n) (rws (enT (ts.take n))), .b (decide ((n : Int) < (ts.length : Int)))] = some (.sl 11 (rws (enT (ts.take n)) ++ rws s.en)) := by
      refine app_e (m := mT n) (b := rws s.en) rfl ?_ ?_ (by simp [SetD.en])
      · exact cat_e (one_e (evals_idr rfl rfl hrow 11 0 (by rw [SetD.ds_len]; decide)) rfl) (cat_e (one_e (evals_idr rfl rfl hrow 11 11 (by rw [SetD.ds_len]; decide)) rfl) (cat_e (one_e (evals_idr rfl rfl hrow 11 22 (by rw [SetD.ds_len]; decide)) rfl) (one_e (evals_idr rfl rfl hrow 11 33 (by rw [SetD.ds_len]; decide)) rfl)))
      · by_cases hn0 : n = 0
        · subst hn0; exact .inr ⟨rfl, rfl⟩
        · exact .inl (mT_pos (by omega))
    refine wp_chk (room_t happ (by rw [List.length_append, List.length_map, List.length_map, hlen, show s.en.length = 4 from rfl]; omega)) ?_
    refine wp_lt (i_add (a := (n : Int)) (b := 1) rfl rfl (by omega) (by omega)) ?_
    simp only [lv_cons, lv_nil, app_cons, app_nil]
    refine wp_cont (ds := [I (n + 1 : Nat), .sl 11 (rws (enT (ts.take n)) ++ rws s.en)]) rfl ?_ (hQ _ ⟨n + 1, ?_, by omega, by omega⟩)
    · have happ' : (Ex.app 11 (.v 3) (.cat (.one (idr (.v 0) (.v 2) 0 11)) (.cat (.one (idr (.v 0) (.v 2) 11 11)) (.cat (.one (idr (.v 0) (.v 2) 22 11)) (.one (idr (.v 0) (.v 2) 33 11)))))).eval [tlb ts, I ts.length, I n, .sl (mT n) (rws (enT (ts.take n))), .b (decide ((n : Int) < (ts.length : Int))), I ((n : Int) + 1)] = some (.sl 11 (rws (enT (ts.take n)) ++ rws s.en)) := by
        refine app_e (m := mT n) (b := rws s.en) rfl ?_ ?_ (by simp [SetD.en])
        · exact cat_e (one_e (evals_idr rfl rfl hrow 11 0 (by rw [SetD.ds_len]; decide)) rfl) (cat_e (one_e (evals_idr rfl rfl hrow 11 11 (by rw [SetD.ds_len]; decide)) rfl) (cat_e (one_e (evals_idr rfl rfl hrow 11 22 (by rw [SetD.ds_len]; decide)) rfl) (one_e (evals_idr rfl rfl hrow 11 33 (by rw [SetD.ds_len]; decide)) rfl)))
        · by_cases hn0 : n = 0
          · subst hn0; exact .inr ⟨rfl, rfl⟩
          · exact .inl (mT_pos (by omega))
      simp only [Ex.evals, happ']
      rfl
    · rw [mT_pos (by omega), enT_take hs]
      simp only [rws, List.map_append]
  have hc := of_decide_eq_false hc
  obtain rfl : n = ts.length := by omega
  rw [List.take_length]
  have hL := enT_len (ts := ts)
  have hall : allT ts = (enT ts).filter (·.v) := rfl
  rw [hall]
  have hmT : 0 < (enT ts).length → mT ts.length = 11 := fun h => mT_pos (by omega)
  generalize enT ts = ws at hL hmT ⊢
  generalize mT ts.length = M at hmT ⊢
  have hLn : (rws ws).length = ws.length := List.length_map ..
  refine wp_rounds (fun m ds => ∃ (d : D) (q : Nat), ds = [d, I q] ∧ q + m = ws.length + 1 ∧ q ≤ ws.length ∧ ∀ x, x < q → ∀ e, ws[x]? = some e → e.v = true) (ws.length + 1) rfl ⟨_, 0, rfl, by omega, by omega, fun x hx => by omega⟩ ?_
    (fun es hes => by obtain ⟨_, q, _, h1, h2, _⟩ := hes; omega)
  rintro m1 es1 Q1 ⟨d, q, rfl, hq1, hq2, hv⟩ hQ1
  simp only [lv_cons, lv_nil, app_cons, app_nil]
  refine wp_lt rfl ?_
  simp only [lv_cons, lv_nil, app_cons, app_nil]
  rw [hLn]
  refine wp_ite rfl (fun hc1 => ?_) (fun hc1 => ?_)
  · have hc1 := of_decide_eq_true hc1
    have hq : q < ws.length := by omega
    obtain rfl := hmT (by omega)
    obtain ⟨e, he⟩ : ∃ e, ws[q]? = some e := ⟨_, List.getElem?_eq_getElem hq⟩
    have hrow := rws_row he
    refine wp_chk (inb_t rfl rfl (by rw [hLn]; exact hq)) ?_
    refine wp_chk (inb_t rfl rfl (by rw [hLn]; exact hq)) ?_
    refine wp_lt (not_e (t := e.v) (idx_e rfl rfl hrow rfl)) ?_
    simp only [lv_cons, lv_nil, app_cons, app_nil]
    refine wp_ite rfl (fun hnv => ?_) (fun hnv => ?_)
    · refine wp_lt (d := .b false) ?_ ?_
      · show some (D.b ((q : Int) == (-1 : Int))) = _
        rw [beq_eq_false_iff_ne.2 (by omega)]
      simp only [lv_cons, lv_nil, app_cons, app_nil]
      refine wp_ite (t := false) rfl (fun h => by cases h) (fun _ => ?_)
      refine wp_lt (i_add (a := (q : Int)) (b := 1) rfl rfl (by omega) (by omega)) ?_
      simp only [lv_cons, lv_nil, app_cons, app_nil]
      have hpre : (ws.take (q + 1)).filter (·.v) = ws.take q := by
        have h1 : ws.take (q + 1) = ws.take q ++ [e] := by rw [List.take_add_one, he]; rfl
        have h2 : (ws.take q).filter (·.v) = ws.take q := by
          rw [List.filter_eq_self]
          intro x hx
          obtain ⟨i, hi, rfl⟩ := List.getElem_of_mem hx
          rw [List.length_take] at hi
          exact hv i (by omega) _ (by rw [List.getElem_take]; exact List.getElem?_eq_getElem (by omega))
        have h3 : e.v = false := by simpa using hnv
        rw [h1, List.filter_append, h2]
        simp [h3]
      refine wp_rounds (fun m ds => ∃ (p j : Nat) (rows : List (List D)), ds = [I p, I j, .sl 11 rows] ∧ j + m = ws.length + 1 ∧ j ≤ ws.length ∧ p < j ∧ rows.length = ws.length ∧ rows.take p = rws ((ws.take j).filter (·.v)) ∧ rows.drop j = (rws ws).drop j ∧ ∀ (i : Nat) (r : List D), rows[i]? = some r → r.length = 11) (ws.length - q) rfl
        ⟨q, q + 1, rws ws, rfl, by omega, by omega, by omega, hLn, by rw [hpre]; exact List.map_take.symm, rfl, fun i r h => by
          rw [List.getElem?_map] at h
          obtain ⟨x, _, rfl⟩ := Option.map_eq_some_iff.1 h
          rfl⟩ ?_
        (fun es hes => by obtain ⟨p, j, _, _, h1, h2, _⟩ := hes; omega)
      rintro m2 es2 Q2 ⟨p, j, rows, rfl, hj1, hj2, hpj, hrl, htk, hdr, h11⟩ hQ2
      simp only [lv_cons, lv_nil, app_cons, app_nil]
      refine wp_lt rfl ?_
      simp only [lv_cons, lv_nil, app_cons, app_nil]
      rw [hrl]
      refine wp_ite rfl (fun hc2 => ?_) (fun hc2 => ?_)
      · have hc2 := of_decide_eq_true hc2
        have hj : j < ws.length := by omega
        obtain ⟨f, hf⟩ : ∃ f, ws[j]? = some f := ⟨_, List.getElem?_eq_getElem hj⟩
        have hrj : rows[j]? = some f.ds := by
          have h1 : (rows.drop j)[0]? = ((rws ws).drop j)[0]? := by rw [hdr]
          rw [List.getElem?_drop, List.getElem?_drop] at h1
          simpa [rws_row hf] using h1
        have htj : ws.take (j + 1) = ws.take j ++ [f] := by rw [List.take_add_one, hf]; rfl
        have hdr1 : rows.drop (j + 1) = (rws ws).drop (j + 1) := by
          rw [Nat.add_comm j 1, ← List.drop_drop, ← List.drop_drop, List.drop_drop, List.drop_drop, Nat.add_comm 1 j, ← List.drop_drop, ← List.drop_drop, hdr]
        refine wp_chk (inb_t rfl rfl (by omega)) ?_
        refine wp_chk (inb_t rfl rfl (by omega)) ?_
        refine wp_lt (not_e (t := f.v) (idx_e rfl rfl hrj rfl)) ?_
        simp only [lv_cons, lv_nil, app_cons, app_nil]
        refine wp_lt (not_e (t := !f.v) rfl) ?_
        simp only [lv_cons, lv_nil, app_cons, app_nil]
        refine wp_ite rfl (fun hfv => ?_) (fun hfv => ?_)
        · have hfv : f.v = true := by simpa using hfv
          refine wp_chk (inb_t rfl rfl (by omega)) ?_
          refine wp_chk (inb_t rfl rfl (by omega)) ?_
          refine wp_lt (i_add (a := (p : Int)) (b := 1) rfl rfl (by omega) (by omega)) ?_
          simp only [lv_cons, lv_nil, app_cons, app_nil]
          refine wp_lt (i_add (a := (j : Int)) (b := 1) rfl rfl (by omega) (by omega)) ?_
          simp only [lv_cons, lv_nil, app_cons, app_nil]
          obtain ⟨r, hr⟩ : ∃ r, rows[p]? = some r := ⟨_, List.getElem?_eq_getElem (by omega)⟩
          have hrr : r.length = 11 := h11 _ _ hr
          refine wp_cont (ds := [I (p + 1 : Nat), I (j + 1 : Nat), .sl 11 (rows.set p f.ds)]) rfl ?_ (hQ2 _ ⟨p + 1, j + 1, _, rfl, by omega, by omega, by omega, by rw [List.length_set]; exact hrl, ?_, ?_, ?_⟩)
          · exact es_cons rfl (es_cons rfl (es_cons (put_e rfl rfl hr (evals_row rfl rfl hrj rfl) (by rw [hrr]; rfl)) rfl))
          · rw [htj, List.filter_append, List.take_add_one, List.getElem?_set_self (by omega), List.take_set_of_le (Nat.le_refl _), htk]
            simp [hfv]
          · rw [List.drop_set_of_lt (by omega), hdr1]
          · intro i r' h
            rw [List.getElem?_set] at h
            split at h
            · split at h
              · obtain rfl : f.ds = r' := by simpa using h
                rfl
              · cases h
            · exact h11 _ _ h
        · have hfv : f.v = false := by simpa using hfv
          refine wp_lt (i_add (a := (j : Int)) (b := 1) rfl rfl (by omega) (by omega)) ?_
          simp only [lv_cons, lv_nil, app_cons, app_nil]
          refine wp_cont rfl rfl (hQ2 _ ⟨p, j + 1, rows, rfl, by omega, by omega, by omega, hrl, ?_, hdr1, h11⟩)
          rw [htj, List.filter_append, htk]
          simp [hfv]
      · have hc2 := of_decide_eq_false hc2
        obtain rfl : j = ws.length := by omega
        rw [List.take_length] at htk
        refine wp_chk (bnd_t (a := p) (b := ws.length) (c := ws.length) rfl (len_is rfl hrl) (len_is rfl hrl) (by omega) (by omega)) ?_
        refine wp_chk (bnd_t (a := 0) (b := ws.length - p) (c := ws.length) rfl (len_sub_e rfl hrl rfl (by omega) (by omega)) (len_is rfl hrl) (by omega) (by omega)) ?_
        refine wp_chk (room_t (app_any (sub_e (a := 0) (b := p) rfl rfl rfl (by omega) (by omega)) (mk_e (len_sub_e rfl hrl rfl (by omega) (by omega)) rfl rfl)) (by omega)) ?_
        refine wp_chk (bnd_t (a := 0) (b := p) rfl rfl (len_e (app_any (sub_e (a := 0) (b := p) rfl rfl rfl (by omega) (by omega)) (mk_e (len_sub_e rfl hrl rfl (by omega) (by omega)) rfl rfl))) (by omega) (by rw [List.length_append, List.length_drop, List.length_take]; omega)) ?_
        refine wp_return (evs_cons (evs_one (sub_e (a := 0) (b := p) (app_any (sub_e (a := 0) (b := p) rfl rfl rfl (by omega) (by omega)) (mk_e (len_sub_e rfl hrl rfl (by omega) (by omega)) rfl rfl)) rfl rfl (by omega) (by rw [List.length_append, List.length_drop, List.length_take]; omega))) rfl) ?_
        rw [List.drop_zero, List.drop_zero, List.take_append_of_le_length (by rw [List.length_take]; omega), List.take_take, Nat.min_self, htk]
    · have hev : e.v = true := by simpa using hnv
      refine wp_lt (i_add (a := (q : Int)) (b := 1) rfl rfl (by omega) (by omega)) ?_
      simp only [lv_cons, lv_nil, app_cons, app_nil]
      refine wp_cont rfl rfl (hQ1 _ ⟨d, q + 1, rfl, by omega, by omega, fun x hx e' he' => ?_⟩)
      by_cases hxq : x = q
      · subst hxq
        rw [he] at he'
        cases he'
        exact hev
      · exact hv x (by omega) e' he'
  · have hc1 := of_decide_eq_false hc1
    obtain rfl : q = ws.length := by omega
    refine wp_return rfl ?_
    have : ws.filter (·.v) = ws := by
      rw [List.filter_eq_self]
      intro x hx
      obtain ⟨i, hi, rfl⟩ := List.getElem_of_mem hx
      exact hv i hi _ (List.getElem?_eq_getElem hi)
    rw [this]
end Go.Proofs.YtmjhghclgockjaaDoor.Sx
