/-
  Layer 2 and 3: the reference's bytes, its loading and storing: contracts.
-/
import Derived.Test.YtffahdloddkcfaaMemg
namespace Go.Proofs.Ytffahdloddkcfaa.Sx
open Go
set_option linter.unusedVariables false
set_option linter.unusedSimpArgs false
set_option maxRecDepth 100000

abbrev byt (b : Nat) : List D := [.i .u8 (b : Int)]
abbrev bys (l : List Nat) : List (List D) := l.map byt
theorem bys_len {l : List Nat} : (bys l).length = l.length := List.length_map ..
theorem bys_get {l : List Nat} {j b : Nat} (h : l[j]? = some b) : (bys l)[j]? = some (byt b) := by rw [List.getElem?_map, h]; rfl
theorem cv_u8 {ρ : List D} {x : Ex} {k : IntKind} {n : Nat} (hx : x.eval ρ = some (.i k (n : Int))) (h : n < 256) : (Ex.cv .u8 x).eval ρ = some (.i .u8 (n : Int)) := by
  have : IntKind.u8.wrap (n : Int) = (n : Int) := by
    show (n : Int) % 256 = n
    omega
  simp [Ex.eval, hx, this]
/-- a byte more -/
theorem by_more {ρ : List D} {x y : Ex} {k v j : Nat} (hx : x.eval ρ = some (.sl k (bys (putB v j)))) (hy : y.eval ρ = some (.i .u8 ((v / 256 ^ j % 256 : Nat) : Int))) (hk : k = 1 ∨ (k = 0 ∧ j = 0)) : (Ex.app 1 x (.one [y])).eval ρ = some (.sl 1 (bys (putB v (j + 1)))) := by
  rw [putB_end, bys, List.map_append]
  exact app_e hx (one_e (evs_one hy) rfl) (by rcases hk with h | ⟨h, rfl⟩; exact .inl h; exact .inr ⟨h, rfl⟩) (by simp)
theorem refPut_con {v n : Nat} (hv : v < 18446744073709551616) (h1 : 1 ≤ n) (h8 : n ≤ 8) : Cn gAll 34 [u v, i n] [(false, [.sl 1 (bys (putB v n))])] := by
  refine con rfl rfl atlasref02_Put_c atlasref02_Put_p rfl ?_
  unfold atlasref02_Put_ir
  simp only [lv_cons, lv_nil, app_cons, app_nil]
  refine wp_rounds (fun m ds => ∃ (j k' : Nat), ds = [U (v / 256 ^ j), I j, .sl k' (bys (putB v j))] ∧ (k' = 1 ∨ (k' = 0 ∧ j = 0)) ∧ j + m = n + 1 ∧ j ≤ n) (n + 1) rfl ⟨0, 0, by simp [putB, bys], .inr ⟨rfl, rfl⟩, by omega, by omega⟩ ?_
    (fun es hes => by obtain ⟨_, _, _, _, h1, h2⟩ := hes; omega)
  rintro m es Q_ ⟨j, k', rfl, hk', hm, hle⟩ hQ_
  simp only [lv_cons, lv_nil, app_cons, app_nil]
  refine wp_lt rfl ?_
  simp only [lv_cons, lv_nil, app_cons, app_nil]
  refine wp_ite rfl (fun hc => ?_) (fun hc => ?_)
  · have hc := of_decide_eq_true hc
    have hlt : v / 256 ^ j < 18446744073709551616 := Nat.lt_of_le_of_lt (Nat.div_le_self _ _) hv
    have hq : v / 256 ^ j / 256 = v / 256 ^ (j + 1) := by rw [Nat.div_div_eq_div_mul, Nat.pow_succ]
    refine wp_lt (u_rem (b := 256) rfl rfl (by omega)) ?_
    simp only [lv_cons, lv_nil, app_cons, app_nil]
    refine wp_lt (cv_u8 rfl (by omega)) ?_
    simp only [lv_cons, lv_nil, app_cons, app_nil]
    refine wp_chk (room_t (by_more rfl rfl hk') (by rw [bys_len, putB_len]; omega)) ?_
    refine wp_lt (u_quo (b := 256) rfl rfl (by omega) hlt) ?_
    rw [hq]
    simp only [lv_cons, lv_nil, app_cons, app_nil]
    refine wp_lt (i_add (a := (j : Int)) (b := 1) rfl rfl (by omega) (by omega)) ?_
    simp only [lv_cons, lv_nil, app_cons, app_nil]
    exact wp_cont rfl (es_cons rfl (es_cons rfl (evs_one (by_more rfl rfl hk')))) (hQ_ _ ⟨j + 1, 1, rfl, .inl rfl, by omega, by omega⟩)
  have hc := of_decide_eq_false hc
  obtain rfl : j = n := by omega
  obtain rfl : k' = 1 := by omega
  exact wp_return rfl rfl
theorem refGet_con {bs : List Nat} (hb : ∀ x ∈ bs, x < 256) (h8 : bs.length ≤ 8) : Cn gAll 31 [(false, [.sl 1 (bys bs)])] [u (getB bs)] := by
  refine con rfl rfl atlasref02_Get_c atlasref02_Get_p rfl ?_
  unfold atlasref02_Get_ir
  simp only [lv_cons, lv_nil, app_cons, app_nil]
  refine wp_lt (len_is rfl bys_len) ?_
  simp only [lv_cons, lv_nil, app_cons, app_nil]
  refine wp_lt (d := I bs.length) ?_ ?_
  · simp only [Ex.eval, List.getElem?_cons_succ, List.getElem?_cons_zero, binD]
    rw [decide_eq_false (by omega)]
    rfl
  simp only [lv_cons, lv_nil, app_cons, app_nil]
  refine wp_lt (i_sub (a := (bs.length : Int)) (b := 1) rfl rfl (by omega) (by omega)) ?_
  simp only [lv_cons, lv_nil, app_cons, app_nil]
  refine wp_rounds (fun m ds => ∃ (j : Nat), ds = [U (getB (bs.drop j)), I ((j : Int) - 1)] ∧ m = j + 1 ∧ j ≤ bs.length) (bs.length + 1) rfl ⟨bs.length, by simp [getB], rfl, by omega⟩ ?_
    (fun es hes => by obtain ⟨_, _, h1, _⟩ := hes; omega)
  rintro m es Q ⟨j, rfl, hm, hle⟩ hQ
  simp only [lv_cons, lv_nil, app_cons, app_nil]
  refine wp_lt rfl ?_
  simp only [lv_cons, lv_nil, app_cons, app_nil]
  refine wp_ite rfl (fun hc => ?_) (fun hc => ?_)
  · have hc := of_decide_eq_true hc
    obtain ⟨j, rfl⟩ : ∃ q, j = q + 1 := ⟨j - 1, by omega⟩
    have hjl : j < bs.length := by omega
    obtain ⟨b, hbj⟩ : ∃ b, bs[j]? = some b := ⟨_, List.getElem?_eq_getElem hjl⟩
    have hb256 : b < 256 := hb b (List.mem_of_getElem? hbj)
    have hdr : bs.drop j = b :: bs.drop (j + 1) := by
      rw [List.drop_eq_getElem_cons hjl]
      rw [List.getElem?_eq_getElem hjl] at hbj
      cases hbj
      rfl
    have hg : getB (bs.drop j) = 256 * getB (bs.drop (j + 1)) + b := by rw [hdr]; rfl
    have hlt : getB (bs.drop j) < 256 ^ 8 := Nat.lt_of_lt_of_le (getB_lt fun x hx => hb x (List.mem_of_mem_drop hx)) (Nat.pow_le_pow_right (by decide) (by rw [List.length_drop]; omega))
    have hlt : getB (bs.drop j) < 18446744073709551616 := hlt
    have hj1 : (((j + 1 : Nat) : Int) - 1) = (j : Int) := by omega
    rw [hj1]
    refine wp_lt (u_mul (a := 256) (b := getB (bs.drop (j + 1))) rfl rfl (by omega)) ?_
    simp only [lv_cons, lv_nil, app_cons, app_nil]
    refine wp_chk (inb_t rfl rfl (by rw [bys_len]; exact hjl)) ?_
    refine wp_lt (cv_u (idx_e rfl rfl (bys_get hbj) rfl) (by omega)) ?_
    simp only [lv_cons, lv_nil, app_cons, app_nil]
    refine wp_lt (u_add rfl rfl (by omega)) ?_
    rw [← hg]
    simp only [lv_cons, lv_nil, app_cons, app_nil]
    refine wp_lt (i_sub (a := (j : Int)) (b := 1) rfl rfl (by omega) (by omega)) ?_
    simp only [lv_cons, lv_nil, app_cons, app_nil]
    exact wp_cont rfl rfl (hQ _ ⟨j, rfl, by omega, by omega⟩)
  · have hc := of_decide_eq_false hc
    obtain rfl : j = 0 := by omega
    exact wp_return rfl (by rw [List.drop_zero])
theorem putB_small {v n : Nat} : ∀ x ∈ putB v n, x < 256 := by
  intro x hx
  simp only [putB, List.mem_map] at hx
  obtain ⟨_, _, rfl⟩ := hx
  exact Nat.mod_lt _ (by decide)
theorem refLow_con {v n : Nat} (hv : v < 18446744073709551616) (h1 : 1 ≤ n) (h8 : n ≤ 8) : Cn gAll 25 [u v, i n] [u (v % 256 ^ n)] := by
  refine con rfl rfl atlasref02_Low_c atlasref02_Low_p rfl ?_
  unfold atlasref02_Low_ir
  simp only [lv_cons, lv_nil, app_cons, app_nil]
  refine wp_call rfl (refPut_con hv h1 h8) rfl ?_
  simp only [lv_cons, lv_nil, app_cons, app_nil]
  refine wp_call rfl (refGet_con putB_small (by rw [putB_len]; exact h8)) rfl ?_
  simp only [lv_cons, lv_nil, app_cons, app_nil]
  rw [getB_putB]
  exact wp_return rfl rfl
def pickN (q : Nat) : Nat := match q % 4 with | 0 => 1 | 1 => 2 | 2 => 4 | _ => 8
theorem pick_or (q : Nat) : pickN q = 1 ∨ pickN q = 2 ∨ pickN q = 4 ∨ pickN q = 8 := by
  unfold pickN
  have : q % 4 < 4 := Nat.mod_lt _ (by decide)
  generalize q % 4 = r at this
  rcases r with _ | _ | _ | _ | r <;> simp
theorem refPick_con {q : Nat} : Cn gAll 24 [(false, [.i .u8 (q : Int)])] [i (pickN q)] := by
  refine con rfl rfl atlasref02_Pick_c atlasref02_Pick_p rfl ?_
  unfold atlasref02_Pick_ir
  simp only [lv_cons, lv_nil, app_cons, app_nil]
  refine wp_lt (rem8 (a := q) (m := 4) rfl (by decide)) ?_
  simp only [lv_cons, lv_nil, app_cons, app_nil]
  unfold pickN
  have : q % 4 < 4 := Nat.mod_lt _ (by decide)
  generalize q % 4 = r at this ⊢
  rcases r with _ | _ | _ | _ | r
  · exact wp_chk rfl (wp_chk rfl (wp_return rfl rfl))
  · exact wp_chk rfl (wp_chk rfl (wp_return rfl rfl))
  · exact wp_chk rfl (wp_chk rfl (wp_return rfl rfl))
  · exact wp_chk rfl (wp_chk rfl (wp_return rfl rfl))
  · omega
theorem refByte_con {k s a : Nat} {cs : List Cl} (hk : Kd k cs) (hs : Asc cs) (hO : COk cs) (hl : cs.length < 4611686018427387904) (ha : a < 18446744073709551616) : Cn gAll 30 [md k s cs, u a] [(false, [.i .u8 ((wordN s cs a / 256 ^ (a % 8) % 256 : Nat) : Int)])] := by
  refine con rfl rfl atlasref03_Byte_c atlasref03_Byte_p rfl ?_
  unfold atlasref03_Byte_ir
  simp only [lv_cons, lv_nil, app_cons, app_nil]
  refine wp_call rfl (refWord_con hk hs hl ha) rfl ?_
  simp only [lv_cons, lv_nil, app_cons, app_nil]
  refine wp_call rfl (refPut_con (n := 8) (wordN_lt hO) (by decide) (by decide)) rfl ?_
  simp only [lv_cons, lv_nil, app_cons, app_nil]
  refine wp_lt (u_rem (b := 8) rfl rfl (by omega)) ?_
  simp only [lv_cons, lv_nil, app_cons, app_nil]
  refine wp_chk (inb_t rfl rfl (by rw [bys_len, putB_len]; omega)) ?_
  exact wp_return (evs_cons (evs_one (idx_e rfl rfl (bys_get (putB_get (by omega))) rfl)) rfl) rfl

theorem wrong_0 {s a : Nat} {z : Int} (h : wrongN s a z = 0) : ∃ n : Nat, z = n ∧ sizeOk n = true ∧ (n = 1 ∨ n = 2 ∨ n = 4 ∨ n = 8) ∧ a % n = 0 ∧ a < s := by
  unfold wrongN at h
  split at h
  · rename_i hz
    have hz' := sizeOk_iff.1 hz
    obtain ⟨n, rfl⟩ : ∃ n : Nat, z = (n : Int) := ⟨z.toNat, by omega⟩
    rw [Int.toNat_natCast] at h
    split at h
    · split at h
      · cases h
      · exact ⟨n, rfl, hz, by omega, by assumption, by omega⟩
    · cases h
  · cases h
theorem size_fits {a n : Nat} (hn : n = 1 ∨ n = 2 ∨ n = 4 ∨ n = 8) (ha : a % n = 0) : a % 8 + n ≤ 8 := by
  rcases hn with rfl | rfl | rfl | rfl <;> omega
theorem refLoad_bad {k s a : Nat} {z : Int} {cs : List Cl} (ha : a < 18446744073709551616) (h : wrongN s a z ≠ 0) : Cn gAll 16 [md k s cs, u a, i z] [u 0, i (wrongN s a z)] := by
  refine con rfl rfl atlasref03_Load_c atlasref03_Load_p rfl ?_
  unfold atlasref03_Load_ir
  simp only [lv_cons, lv_nil, app_cons, app_nil]
  refine wp_call rfl (refWrong_con (k := k) (s := s) (z := z) (cs := cs) ha) rfl ?_
  simp only [lv_cons, lv_nil, app_cons, app_nil]
  refine wp_lt (d := .b true) (cmp_e (e_neq rfl rfl) (bne_iff_ne.2 h)) ?_
  simp only [lv_cons, lv_nil, app_cons, app_nil]
  refine wp_ite (t := true) rfl (fun _ => ?_) (fun h => by cases h)
  exact wp_return rfl rfl
theorem refLoad_ok {k s a n : Nat} {cs : List Cl} (hk : Kd k cs) (hR : RM s cs) (hO : COk cs) (hl : cs.length < 4611686018427387904) (hn : n = 1 ∨ n = 2 ∨ n = 4 ∨ n = 8) (han : a % n = 0) (has : a < s) (h : wrongN s a n = 0) : Cn gAll 16 [md k s cs, u a, i n] [u (loadN s cs a n), i 0] := by
  refine con rfl rfl atlasref03_Load_c atlasref03_Load_p rfl ?_
  unfold atlasref03_Load_ir
  simp only [lv_cons, lv_nil, app_cons, app_nil]
  have hmost := hR.most
  have heven := hR.even
  have hfit := size_fits hn han
  have hW := wordN_lt (s := s) (a := a) hO
  refine wp_call rfl (refWrong_con (k := k) (s := s) (z := n) (cs := cs) (a := a) (by omega)) rfl ?_
  rw [h]
  simp only [lv_cons, lv_nil, app_cons, app_nil]
  refine wp_lt (d := (.b false)) rfl ?_
  simp only [lv_cons, lv_nil, app_cons, app_nil]
  refine wp_ite (t := false) rfl (fun h => by cases h) (fun _ => ?_)
  have hbyte : ∀ j, j < n → wordN s cs (a + j) / 256 ^ ((a + j) % 8) % 256 = wordN s cs a / 256 ^ (a % 8) / 256 ^ j % 256 := fun j hj => by
    rw [word_in (by omega), word_in has, show (a + j) / 8 = a / 8 by omega, show (a + j) % 8 = a % 8 + j by omega, Nat.pow_add, Nat.div_div_eq_div_mul]
  unfold loadN
  rw [getN_bytes]
  generalize wordN s cs a / 256 ^ (a % 8) = v at hbyte ⊢
  refine wp_rounds (fun m ds => ∃ (j k' : Nat), ds = [I j, .sl k' (bys (putB v j))] ∧ (k' = 1 ∨ (k' = 0 ∧ j = 0)) ∧ j + m = n + 1 ∧ j ≤ n) (n + 1) rfl ⟨0, 0, by simp [putB, bys], .inr ⟨rfl, rfl⟩, by omega, by omega⟩ ?_
    (fun es hes => by obtain ⟨_, _, _, _, h1, h2⟩ := hes; omega)
  rintro m es Q ⟨j, k', rfl, hk', hm, hle⟩ hQ
  simp only [lv_cons, lv_nil, app_cons, app_nil]
  refine wp_lt rfl ?_
  simp only [lv_cons, lv_nil, app_cons, app_nil]
  refine wp_ite rfl (fun hc => ?_) (fun hc => ?_)
  · have hc := of_decide_eq_true hc
    refine wp_lt (cv_u rfl (by omega)) ?_
    simp only [lv_cons, lv_nil, app_cons, app_nil]
    refine wp_lt (u_add rfl rfl (by omega)) ?_
    simp only [lv_cons, lv_nil, app_cons, app_nil]
    refine wp_call rfl (refByte_con (s := s) (a := a + j) hk hR.asc hO hl (by omega)) rfl ?_
    rw [hbyte j (by omega)]
    simp only [lv_cons, lv_nil, app_cons, app_nil]
    refine wp_chk (room_t (by_more rfl rfl hk') (by rw [bys_len, putB_len]; omega)) ?_
    refine wp_lt (i_add (a := (j : Int)) (b := 1) rfl rfl (by omega) (by omega)) ?_
    simp only [lv_cons, lv_nil, app_cons, app_nil]
    exact wp_cont rfl (es_cons rfl (evs_one (by_more rfl rfl hk'))) (hQ _ ⟨j + 1, 1, rfl, .inl rfl, by omega, by omega⟩)
  · have hc := of_decide_eq_false hc
    obtain rfl : j = n := by omega
    obtain rfl : k' = 1 := by omega
    refine wp_call rfl (refGet_con putB_small (by rw [putB_len]; omega)) rfl ?_
    simp only [lv_cons, lv_nil, app_cons, app_nil]
    refine wp_chk (eqs_i rfl rfl) ?_
    exact wp_return rfl rfl
theorem refStore_bad {k s a v : Nat} {z : Int} {cs : List Cl} (ha : a < 18446744073709551616) (h : wrongN s a z ≠ 0) : Cn gAll 18 [md k s cs, u a, i z, u v] [md k s cs, i (wrongN s a z)] := by
  refine con rfl rfl atlasref03_Store_c atlasref03_Store_p rfl ?_
  unfold atlasref03_Store_ir
  simp only [lv_cons, lv_nil, app_cons, app_nil]
  refine wp_call rfl (refWrong_con (k := k) (s := s) (z := z) (cs := cs) ha) rfl ?_
  simp only [lv_cons, lv_nil, app_cons, app_nil]
  refine wp_lt (d := .b true) (cmp_e (e_neq rfl rfl) (bne_iff_ne.2 h)) ?_
  simp only [lv_cons, lv_nil, app_cons, app_nil]
  refine wp_ite (t := true) rfl (fun _ => ?_) (fun h => by cases h)
  exact wp_return rfl rfl
theorem refStore_ok {k s a n v : Nat} {cs : List Cl} (hk : Kd k cs) (hR : RM s cs) (hO : COk cs) (hl : cs.length ≤ 400000) (hv : v < 18446744073709551616) (hn : n = 1 ∨ n = 2 ∨ n = 4 ∨ n = 8) (han : a % n = 0) (has : a < s) (h : wrongN s a n = 0) : Cn gAll 18 [md k s cs, u a, i n, u v] [md 2 s (storeM s cs a n v), i 0] := by
  refine con rfl rfl atlasref03_Store_c atlasref03_Store_p rfl ?_
  unfold atlasref03_Store_ir
  simp only [lv_cons, lv_nil, app_cons, app_nil]
  have hmost := hR.most
  have hfit := size_fits hn han
  refine wp_call rfl (refWrong_con (k := k) (s := s) (z := n) (cs := cs) (a := a) (by omega)) rfl ?_
  rw [h]
  simp only [lv_cons, lv_nil, app_cons, app_nil]
  refine wp_lt (d := (.b false)) rfl ?_
  simp only [lv_cons, lv_nil, app_cons, app_nil]
  refine wp_ite (t := false) rfl (fun h => by cases h) (fun _ => ?_)
  refine wp_call rfl (refWord_con (s := s) (a := a) hk hR.asc (by omega) (by omega)) rfl ?_
  simp only [lv_cons, lv_nil, app_cons, app_nil]
  have hW := wordN_lt (s := s) (a := a) hO
  unfold storeM
  generalize wordN s cs a = w at hW ⊢
  refine wp_rounds (fun m ds => ∃ (j k' : Nat), ds = [U (w / 256 ^ j), I j, .sl k' (bys (putB w j))] ∧ (k' = 1 ∨ (k' = 0 ∧ j = 0)) ∧ j + m = 8 + 1 ∧ j ≤ 8) (8 + 1) rfl ⟨0, 0, by simp [putB, bys], .inr ⟨rfl, rfl⟩, by omega, by omega⟩ ?_
    (fun es hes => by obtain ⟨_, _, _, _, h1, h2⟩ := hes; omega)
  rintro m es Q1 ⟨j, k', rfl, hk', hm, hle⟩ hQ1
  simp only [lv_cons, lv_nil, app_cons, app_nil]
  refine wp_lt rfl ?_
  simp only [lv_cons, lv_nil, app_cons, app_nil]
  refine wp_ite rfl (fun hc => ?_) (fun hc => ?_)
  · have hc := of_decide_eq_true hc
    have hlt : w / 256 ^ j < 18446744073709551616 := Nat.lt_of_le_of_lt (Nat.div_le_self _ _) hW
    have hq : w / 256 ^ j / 256 = w / 256 ^ (j + 1) := by rw [Nat.div_div_eq_div_mul, Nat.pow_succ]
    refine wp_lt (u_rem (b := 256) rfl rfl (by omega)) ?_
    simp only [lv_cons, lv_nil, app_cons, app_nil]
    refine wp_lt (cv_u8 rfl (by omega)) ?_
    simp only [lv_cons, lv_nil, app_cons, app_nil]
    refine wp_chk (room_t (by_more rfl rfl hk') (by rw [bys_len, putB_len]; omega)) ?_
    refine wp_lt (u_quo (b := 256) rfl rfl (by omega) hlt) ?_
    rw [hq]
    simp only [lv_cons, lv_nil, app_cons, app_nil]
    refine wp_lt (i_add (a := (j : Int)) (b := 1) rfl rfl (by omega) (by omega)) ?_
    simp only [lv_cons, lv_nil, app_cons, app_nil]
    exact wp_cont rfl (es_cons rfl (es_cons rfl (evs_one (by_more rfl rfl hk')))) (hQ1 _ ⟨j + 1, 1, rfl, .inl rfl, by omega, by omega⟩)
  have hc := of_decide_eq_false hc
  obtain rfl : j = 8 := by omega
  obtain rfl : k' = 1 := by omega
  clear hk' hm hle hc hQ1
  refine wp_rounds (fun m ds => ∃ (j k' : Nat), ds = [U (v / 256 ^ j), I j, .sl k' (bys (putB v j))] ∧ (k' = 1 ∨ (k' = 0 ∧ j = 0)) ∧ j + m = n + 1 ∧ j ≤ n) (n + 1) rfl ⟨0, 0, by simp [putB, bys], .inr ⟨rfl, rfl⟩, by omega, by omega⟩ ?_
    (fun es hes => by obtain ⟨_, _, _, _, h1, h2⟩ := hes; omega)
  rintro m es Q2 ⟨j, k', rfl, hk', hm, hle⟩ hQ2
  simp only [lv_cons, lv_nil, app_cons, app_nil]
  refine wp_lt rfl ?_
  simp only [lv_cons, lv_nil, app_cons, app_nil]
  refine wp_ite rfl (fun hc => ?_) (fun hc => ?_)
  · have hc := of_decide_eq_true hc
    have hlt : v / 256 ^ j < 18446744073709551616 := Nat.lt_of_le_of_lt (Nat.div_le_self _ _) hv
    have hq : v / 256 ^ j / 256 = v / 256 ^ (j + 1) := by rw [Nat.div_div_eq_div_mul, Nat.pow_succ]
    refine wp_lt (u_rem (b := 256) rfl rfl (by omega)) ?_
    simp only [lv_cons, lv_nil, app_cons, app_nil]
    refine wp_lt (cv_u8 rfl (by omega)) ?_
    simp only [lv_cons, lv_nil, app_cons, app_nil]
    refine wp_chk (room_t (by_more rfl rfl hk') (by rw [bys_len, putB_len]; omega)) ?_
    refine wp_lt (u_quo (b := 256) rfl rfl (by omega) hlt) ?_
    rw [hq]
    simp only [lv_cons, lv_nil, app_cons, app_nil]
    refine wp_lt (i_add (a := (j : Int)) (b := 1) rfl rfl (by omega) (by omega)) ?_
    simp only [lv_cons, lv_nil, app_cons, app_nil]
    exact wp_cont rfl (es_cons rfl (es_cons rfl (evs_one (by_more rfl rfl hk')))) (hQ2 _ ⟨j + 1, 1, rfl, .inl rfl, by omega, by omega⟩)
  have hc := of_decide_eq_false hc
  obtain rfl : j = n := by omega
  obtain rfl : k' = 1 := by omega
  clear hk' hm hle hc hQ2
  refine wp_rounds (fun m ds => ∃ (i : Nat), ds = [I i, .sl 1 (bys (mixB w v (a % 8) i))] ∧ i + m = j + 1 ∧ i ≤ j) (j + 1) rfl ⟨0, by rw [mixB_0]; rfl, by omega, by omega⟩ ?_
    (fun es hes => by obtain ⟨_, _, h1, h2⟩ := hes; omega)
  rintro m es Q ⟨i, rfl, hm, hle⟩ hQ
  simp only [lv_cons, lv_nil, app_cons, app_nil]
  refine wp_lt rfl ?_
  simp only [lv_cons, lv_nil, app_cons, app_nil]
  refine wp_ite rfl (fun hc => ?_) (fun hc => ?_)
  · have hc := of_decide_eq_true hc
    have hij : i < j := by omega
    refine wp_lt (u_rem (b := 8) rfl rfl (by omega)) ?_
    simp only [lv_cons, lv_nil, app_cons, app_nil]
    refine wp_lt (cv_i rfl (by omega) (by omega)) ?_
    simp only [lv_cons, lv_nil, app_cons, app_nil]
    refine wp_lt (d := I (a % 8 + i : Nat)) ((i_add (a := ((a % 8 : Nat) : Int)) (b := (i : Int)) rfl rfl (by omega) (by omega)).trans (by rw [Int.natCast_add])) ?_
    simp only [lv_cons, lv_nil, app_cons, app_nil]
    refine wp_chk (inb_t rfl rfl (by rw [bys_len, putB_len]; omega)) ?_
    refine wp_chk (inb_t rfl rfl (by rw [bys_len, putB_len]; omega)) ?_
    refine wp_chk (inb_t rfl rfl (by rw [bys_len, mixB_len]; omega)) ?_
    refine wp_chk (inb_t rfl rfl (by rw [bys_len, mixB_len]; omega)) ?_
    refine wp_lt (i_add (a := (i : Int)) (b := 1) rfl rfl (by omega) (by omega)) ?_
    simp only [lv_cons, lv_nil, app_cons, app_nil]
    obtain ⟨o, ho⟩ : ∃ o, (mixB w v (a % 8) i)[a % 8 + i]? = some o := ⟨_, List.getElem?_eq_getElem (by rw [mixB_len]; omega)⟩
    refine wp_cont rfl (es_cons rfl (evs_one (put_e rfl rfl (bys_get ho) (evs_one (idx_e rfl rfl (bys_get (putB_get hij)) rfl)) rfl))) (hQ _ ⟨i + 1, ?_, by omega, by omega⟩)
    have := mixB_set (w := w) (v := v) (o := a % 8) (i := i) (by omega)
    rw [← this, bys, bys, List.map_set]
    rfl
  · have hc := of_decide_eq_false hc
    obtain rfl : i = j := by omega
    refine wp_lt (u_quo (b := 8) rfl rfl (by omega) (by omega)) ?_
    simp only [lv_cons, lv_nil, app_cons, app_nil]
    refine wp_call rfl (refGet_con mixB_small (by rw [mixB_len]; omega)) rfl ?_
    rw [getB_mix hfit]
    simp only [lv_cons, lv_nil, app_cons, app_nil]
    refine wp_call rfl (refSet_con (s := s) hk hR.asc hl) rfl ?_
    simp only [lv_cons, lv_nil, app_cons, app_nil]
    exact wp_return rfl rfl
end Go.Proofs.Ytffahdloddkcfaa.Sx
