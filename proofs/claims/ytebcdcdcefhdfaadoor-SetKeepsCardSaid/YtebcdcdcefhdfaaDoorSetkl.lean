/-
  Layer 13: SetKeeps, whatever the set and the entry.
-/
import Derived.Test.YtebcdcdcefhdfaaDoorSetk
namespace Go.Proofs.YtebcdcdcefhdfaaDoor.Sx
open Go
set_option linter.unusedVariables false
set_option linter.unusedSimpArgs false
set_option maxRecDepth 100000

theorem En.may_of_v {e : En} (h : e.may = true) (hv : e.v = true) : e.May := En.mayB_iff.1 (by simpa [En.may, hv] using h)

set_option maxHeartbeats 16000000 in
theorem SetKeeps_con {s : SetD} {e : En} {v : Int} (hs : s.Ok) (he : e.Ok) : Cn gAll 4 [s.dv, e.dv, i v] [bb true] := by
  refine con rfl rfl atlaslaw13_SetKeeps_c atlaslaw13_SetKeeps_p rfl ?_
  unfold atlaslaw13_SetKeeps_ir
  simp only [lv_cons, lv_nil, SetD.ds, En.ds, app_cons, app_nil]
  refine wp_jn (fun es => ∃ t, es = [.b t] ∧ (t = false → s.right = true ∧ e.may = true ∧ e.v = true)) ?_ ?_
  rotate_left
  · intro Q hQ
    refine wp_call rfl awake13_con rfl ?_
    simp only [lv_cons, lv_nil, app_cons, app_nil]
    refine wp_lt rfl ?_
    simp only [lv_cons, lv_nil, app_cons, app_nil]
    refine wp_ite (t := false) rfl (fun h => by cases h) (fun _ => ?_)
    refine wp_call rfl (refRight_con (s := s)) rfl ?_
    simp only [lv_cons, lv_nil, app_cons, app_nil]
    refine wp_lt rfl ?_
    simp only [lv_cons, lv_nil, app_cons, app_nil]
    refine wp_ite rfl (fun _ => wp_cont rfl rfl (hQ _ ⟨_, rfl, fun h => by cases h⟩)) (fun h1 => ?_)
    refine wp_call rfl (refMay_con (e := e)) rfl ?_
    simp only [lv_cons, lv_nil, app_cons, app_nil]
    refine wp_lt rfl ?_
    simp only [lv_cons, lv_nil, app_cons, app_nil]
    refine wp_ite rfl (fun _ => wp_cont rfl rfl (hQ _ ⟨_, rfl, fun h => by cases h⟩)) (fun h2 => ?_)
    refine wp_lt rfl ?_
    simp only [lv_cons, lv_nil, app_cons, app_nil]
    exact wp_cont rfl rfl (hQ _ ⟨_, rfl, fun h3 => ⟨by simpa using h1, by simpa using h2, by simpa using h3⟩⟩)
  rintro es ⟨t, rfl, ht⟩
  simp only [app_cons, app_nil]
  refine wp_ite rfl (fun h => ?_) (fun h => ?_)
  · refine wp_call rfl awake13_con rfl ?_
    exact wp_return rfl rfl
  obtain ⟨hr, hm, hv⟩ := ht h
  subst h
  obtain ⟨ht8, m0, m1, m2, m3⟩ := SetD.right_may hr
  have hlt : setPutK s e v < 4 := goesF_lt (s := dropTo e s 4) (v := v) ht8
  have hmM := En.may_of_v hm hv
  have hp := put_con (s := s) (e := e) (v := v) ht8
  have hT := goes_told (s := s) (e := e) (v := v)
  have hE := goes_empty (s := s) (e := e) (v := v)
  obtain ⟨k, hk⟩ : ∃ k, setPutK s e v = k := ⟨_, rfl⟩
  rw [hk] at hlt hT hE
  rw [setPut_eq hk hlt, hk] at hp
  have hxr := putW_right (k := k) hr hm hlt
  have hcr := right_con (putW_ok (k := k) hs he)
  rw [hxr] at hcr
  have hfd := find_con (s := putW e s k) (n := e.asid) (a := ofN e.vpn) (l := e.lv) (signN_lt _ _) hmM.lv hxr
  obtain ⟨hf2, hfw⟩ := putW_find (s := s) hlt hv hmM
  rw [hf2] at hfd
  obtain ⟨fw, hfw0⟩ : ∃ fw, (findF (putW e s k) e.asid (ofN e.vpn) e.lv).1 = fw := ⟨_, rfl⟩
  rw [hfw0] at hfd hfw
  clear hfw0 hf2
  have hcase : k = 0 ∨ k = 1 ∨ k = 2 ∨ k = 3 := by omega
  rcases hcase with rfl | rfl | rfl | rfl
  · rw [putW_0] at hp hcr hfd
    refine wp_call rfl hp rfl ?_
    simp only [lv_cons, lv_nil, SetD.ds, En.ds, app_cons, app_nil]
    refine wp_jn (fun es => es = [.b false]) ?_ ?_
    rotate_left
    · intro Q hQ
      refine wp_lt (d := .b false) rfl ?_
      simp only [lv_cons, lv_nil, app_cons, app_nil]
      refine wp_ite (t := false) rfl (fun h => by cases h) (fun _ => ?_)
      refine wp_lt (d := .b false) rfl ?_
      simp only [lv_cons, lv_nil, app_cons, app_nil]
      refine wp_ite (t := false) rfl (fun h => by cases h) (fun _ => ?_)
      refine wp_chk rfl ?_
      refine wp_lt (not_e (t := true) (by
        repeat' first
          | refine ite_t (eqs_b rfl rfl) ?_
          | refine ite_t (eqs_i rfl rfl) ?_
          | exact rfl)) ?_
      simp only [lv_cons, lv_nil, app_cons, app_nil]
      refine wp_ite (t := false) rfl (fun h => by cases h) (fun _ => ?_)
      refine wp_call rfl hcr rfl ?_
      simp only [lv_cons, lv_nil, app_cons, app_nil]
      refine wp_lt (d := .b false) rfl ?_
      simp only [lv_cons, lv_nil, app_cons, app_nil]
      refine wp_ite (t := false) rfl (fun h => by cases h) (fun _ => ?_)
      refine wp_call rfl (refUnlike_con (s := s)) rfl ?_
      simp only [lv_cons, lv_nil, app_cons, app_nil]
      refine wp_ite rfl (fun hu => ?_) (fun hu => ?_)
      · have hux := putW_unlike (e := e) (k := 0) hu (by omega)
        have hcu := refUnlike_con (s := putW e s 0)
        rw [hux, putW_0] at hcu
        refine wp_call rfl hcu rfl ?_
        simp only [lv_cons, lv_nil, app_cons, app_nil]
        refine wp_lt (d := .b false) rfl ?_
        simp only [lv_cons, lv_nil, app_cons, app_nil]
        exact wp_cont rfl rfl (hQ _ rfl)
      · exact wp_cont rfl rfl (hQ _ rfl)
    · rintro es rfl
      simp only [app_cons, app_nil]
      refine wp_ite (t := false) rfl (fun h => by cases h) (fun _ => ?_)
      refine wp_rounds (fun m ds => ∃ (b : Bool) (n : Nat), ds = [.b b, .b (empT e s n), I n] ∧ n + m = 5 ∧ n ≤ 4) 5 rfl ⟨false, 0, rfl, by omega, by omega⟩ ?_
        (fun es hes => by obtain ⟨_, n, _, h1, h2⟩ := hes; omega)
      rintro m es Q ⟨b, n, rfl, hn, hn'⟩ hQ
      simp only [app_cons, app_nil]
      have hcase : n = 0 ∨ n = 1 ∨ n = 2 ∨ n = 3 ∨ n = 4 := by omega
      rcases hcase with rfl | rfl | rfl | rfl | rfl
      · refine wp_lt (d := .b true) rfl ?_
        simp only [lv_cons, lv_nil, app_cons, app_nil]
        refine wp_ite (t := true) rfl (fun _ => ?_) (fun h => by cases h)
        refine wp_jn (fun es => es = [.b (empT e s (0 + 1))]) ?_ ?_
        · rintro es rfl
          simp only [app_cons, app_nil]
          refine wp_jn (fun es => es = [.b false]) ?_ ?_
          · rintro es rfl
            simp only [app_cons, app_nil]
            refine wp_ite (t := false) rfl (fun h => by cases h) (fun _ => ?_)
            refine wp_lt (d := I (0 + 1 : Nat)) rfl ?_
            simp only [lv_cons, lv_nil, app_cons, app_nil]
            exact wp_cont rfl rfl (hQ _ ⟨_, 0 + 1, rfl, by omega, by omega⟩)
          · intro Q2 hQ2
            refine wp_lt (d := .b false) rfl ?_
            simp only [lv_cons, lv_nil, app_cons, app_nil]
            refine wp_ite (t := false) rfl (fun h => by cases h) (fun _ => ?_)
            refine wp_lt (d := .b false) rfl ?_
            simp only [lv_cons, lv_nil, app_cons, app_nil]
            refine wp_ite (t := false) rfl (fun h => by cases h) (fun _ => ?_)
            exact wp_cont rfl rfl (hQ2 _ rfl)
        · intro Q1 hQ1
          have hcS := same_con (e := e) (f := s.w0)
          repeat' first
            | refine wp_chk rfl ?_
            | (refine wp_call rfl hcS rfl ?_; simp only [lv_cons, lv_nil, app_cons, app_nil])
            | (refine wp_lt (not_e (t := true) ?_) ?_
               focus
                 refine ite_t (eqs_b rfl rfl) ?_
                 repeat' first
                   | refine ite_t (eqs_b rfl rfl) ?_
                   | refine ite_t (eqs_i rfl rfl) ?_
                   | exact rfl
               simp only [app_cons, app_nil])
            | (refine wp_lt rfl ?_; simp only [app_cons, app_nil])
            | (refine wp_ite rfl (fun hc => ?_) (fun hc => ?_) <;> first | exact absurd hc (by decide) | exact absurd hc (by rw [hwv]; decide) | skip)
          all_goals (refine wp_cont rfl rfl (hQ1 _ ?_); simp_all [empT, empF])
      · refine wp_lt (d := .b true) rfl ?_
        simp only [lv_cons, lv_nil, app_cons, app_nil]
        refine wp_ite (t := true) rfl (fun _ => ?_) (fun h => by cases h)
        refine wp_jn (fun es => es = [.b (empT e s (1 + 1))]) ?_ ?_
        · rintro es rfl
          simp only [app_cons, app_nil]
          refine wp_jn (fun es => es = [.b false]) ?_ ?_
          · rintro es rfl
            simp only [app_cons, app_nil]
            refine wp_ite (t := false) rfl (fun h => by cases h) (fun _ => ?_)
            refine wp_lt (d := I (1 + 1 : Nat)) rfl ?_
            simp only [lv_cons, lv_nil, app_cons, app_nil]
            exact wp_cont rfl rfl (hQ _ ⟨_, 1 + 1, rfl, by omega, by omega⟩)
          · intro Q2 hQ2
            have hcS := same_con (e := e) (f := s.w1)
            cases hsm : sameF e s.w1 with
            | true =>
              rw [hsm] at hcS
              have hd : dW e s.w1 = En.zero := by unfold dW; rw [if_pos hsm]
              have hwv := same_v hsm
              rw [hd]
              simp only [En.zero]
              repeat' first
                | refine wp_chk rfl ?_
                | (refine wp_call rfl hcS rfl ?_; simp only [lv_cons, lv_nil, app_cons, app_nil])
                | (refine wp_lt (not_e (t := true) ?_) ?_
                   focus
                     refine ite_t (eqs_b rfl rfl) ?_
                     repeat' first
                       | refine ite_t (eqs_b rfl rfl) ?_
                       | refine ite_t (eqs_i rfl rfl) ?_
                       | exact rfl
                   simp only [app_cons, app_nil])
                | (refine wp_lt rfl ?_; simp only [app_cons, app_nil])
                | (refine wp_ite rfl (fun hc => ?_) (fun hc => ?_) <;> first | exact absurd hc (by decide) | exact absurd hc (by rw [hwv]; decide) | skip)
              all_goals (refine wp_cont rfl rfl (hQ2 _ ?_); simp_all)
            | false =>
              rw [hsm] at hcS
              have hd : dW e s.w1 = s.w1 := by unfold dW; rw [if_neg (by simp [hsm])]
              rw [hd]
              repeat' first
                | refine wp_chk rfl ?_
                | (refine wp_call rfl hcS rfl ?_; simp only [lv_cons, lv_nil, app_cons, app_nil])
                | (refine wp_lt (not_e (t := true) ?_) ?_
                   focus
                     refine ite_t (eqs_b rfl rfl) ?_
                     repeat' first
                       | refine ite_t (eqs_b rfl rfl) ?_
                       | refine ite_t (eqs_i rfl rfl) ?_
                       | exact rfl
                   simp only [app_cons, app_nil])
                | (refine wp_lt rfl ?_; simp only [app_cons, app_nil])
                | (refine wp_ite rfl (fun hc => ?_) (fun hc => ?_) <;> first | exact absurd hc (by decide) | exact absurd hc (by rw [hwv]; decide) | skip)
              all_goals (refine wp_cont rfl rfl (hQ2 _ ?_); simp_all)
        · intro Q1 hQ1
          have hcS := same_con (e := e) (f := s.w1)
          repeat' first
            | refine wp_chk rfl ?_
            | (refine wp_call rfl hcS rfl ?_; simp only [lv_cons, lv_nil, app_cons, app_nil])
            | (refine wp_lt (not_e (t := true) ?_) ?_
               focus
                 refine ite_t (eqs_b rfl rfl) ?_
                 repeat' first
                   | refine ite_t (eqs_b rfl rfl) ?_
                   | refine ite_t (eqs_i rfl rfl) ?_
                   | exact rfl
               simp only [app_cons, app_nil])
            | (refine wp_lt rfl ?_; simp only [app_cons, app_nil])
            | (refine wp_ite rfl (fun hc => ?_) (fun hc => ?_) <;> first | exact absurd hc (by decide) | exact absurd hc (by rw [hwv]; decide) | skip)
          all_goals (refine wp_cont rfl rfl (hQ1 _ ?_); simp_all [empT, empF])
      · refine wp_lt (d := .b true) rfl ?_
        simp only [lv_cons, lv_nil, app_cons, app_nil]
        refine wp_ite (t := true) rfl (fun _ => ?_) (fun h => by cases h)
        refine wp_jn (fun es => es = [.b (empT e s (2 + 1))]) ?_ ?_
        · rintro es rfl
          simp only [app_cons, app_nil]
          refine wp_jn (fun es => es = [.b false]) ?_ ?_
          · rintro es rfl
            simp only [app_cons, app_nil]
            refine wp_ite (t := false) rfl (fun h => by cases h) (fun _ => ?_)
            refine wp_lt (d := I (2 + 1 : Nat)) rfl ?_
            simp only [lv_cons, lv_nil, app_cons, app_nil]
            exact wp_cont rfl rfl (hQ _ ⟨_, 2 + 1, rfl, by omega, by omega⟩)
          · intro Q2 hQ2
            have hcS := same_con (e := e) (f := s.w2)
            cases hsm : sameF e s.w2 with
            | true =>
              rw [hsm] at hcS
              have hd : dW e s.w2 = En.zero := by unfold dW; rw [if_pos hsm]
              have hwv := same_v hsm
              rw [hd]
              simp only [En.zero]
              repeat' first
                | refine wp_chk rfl ?_
                | (refine wp_call rfl hcS rfl ?_; simp only [lv_cons, lv_nil, app_cons, app_nil])
                | (refine wp_lt (not_e (t := true) ?_) ?_
                   focus
                     refine ite_t (eqs_b rfl rfl) ?_
                     repeat' first
                       | refine ite_t (eqs_b rfl rfl) ?_
                       | refine ite_t (eqs_i rfl rfl) ?_
                       | exact rfl
                   simp only [app_cons, app_nil])
                | (refine wp_lt rfl ?_; simp only [app_cons, app_nil])
                | (refine wp_ite rfl (fun hc => ?_) (fun hc => ?_) <;> first | exact absurd hc (by decide) | exact absurd hc (by rw [hwv]; decide) | skip)
              all_goals (refine wp_cont rfl rfl (hQ2 _ ?_); simp_all)
            | false =>
              rw [hsm] at hcS
              have hd : dW e s.w2 = s.w2 := by unfold dW; rw [if_neg (by simp [hsm])]
              rw [hd]
              repeat' first
                | refine wp_chk rfl ?_
                | (refine wp_call rfl hcS rfl ?_; simp only [lv_cons, lv_nil, app_cons, app_nil])
                | (refine wp_lt (not_e (t := true) ?_) ?_
                   focus
                     refine ite_t (eqs_b rfl rfl) ?_
                     repeat' first
                       | refine ite_t (eqs_b rfl rfl) ?_
                       | refine ite_t (eqs_i rfl rfl) ?_
                       | exact rfl
                   simp only [app_cons, app_nil])
                | (refine wp_lt rfl ?_; simp only [app_cons, app_nil])
                | (refine wp_ite rfl (fun hc => ?_) (fun hc => ?_) <;> first | exact absurd hc (by decide) | exact absurd hc (by rw [hwv]; decide) | skip)
              all_goals (refine wp_cont rfl rfl (hQ2 _ ?_); simp_all)
        · intro Q1 hQ1
          have hcS := same_con (e := e) (f := s.w2)
          repeat' first
            | refine wp_chk rfl ?_
            | (refine wp_call rfl hcS rfl ?_; simp only [lv_cons, lv_nil, app_cons, app_nil])
            | (refine wp_lt (not_e (t := true) ?_) ?_
               focus
                 refine ite_t (eqs_b rfl rfl) ?_
                 repeat' first
                   | refine ite_t (eqs_b rfl rfl) ?_
                   | refine ite_t (eqs_i rfl rfl) ?_
                   | exact rfl
               simp only [app_cons, app_nil])
            | (refine wp_lt rfl ?_; simp only [app_cons, app_nil])
            | (refine wp_ite rfl (fun hc => ?_) (fun hc => ?_) <;> first | exact absurd hc (by decide) | exact absurd hc (by rw [hwv]; decide) | skip)
          all_goals (refine wp_cont rfl rfl (hQ1 _ ?_); simp_all [empT, empF])
      · refine wp_lt (d := .b true) rfl ?_
        simp only [lv_cons, lv_nil, app_cons, app_nil]
        refine wp_ite (t := true) rfl (fun _ => ?_) (fun h => by cases h)
        refine wp_jn (fun es => es = [.b (empT e s (3 + 1))]) ?_ ?_
        · rintro es rfl
          simp only [app_cons, app_nil]
          refine wp_jn (fun es => es = [.b false]) ?_ ?_
          · rintro es rfl
            simp only [app_cons, app_nil]
            refine wp_ite (t := false) rfl (fun h => by cases h) (fun _ => ?_)
            refine wp_lt (d := I (3 + 1 : Nat)) rfl ?_
            simp only [lv_cons, lv_nil, app_cons, app_nil]
            exact wp_cont rfl rfl (hQ _ ⟨_, 3 + 1, rfl, by omega, by omega⟩)
          · intro Q2 hQ2
            have hcS := same_con (e := e) (f := s.w3)
            cases hsm : sameF e s.w3 with
            | true =>
              rw [hsm] at hcS
              have hd : dW e s.w3 = En.zero := by unfold dW; rw [if_pos hsm]
              have hwv := same_v hsm
              rw [hd]
              simp only [En.zero]
              repeat' first
                | refine wp_chk rfl ?_
                | (refine wp_call rfl hcS rfl ?_; simp only [lv_cons, lv_nil, app_cons, app_nil])
                | (refine wp_lt (not_e (t := true) ?_) ?_
                   focus
                     refine ite_t (eqs_b rfl rfl) ?_
                     repeat' first
                       | refine ite_t (eqs_b rfl rfl) ?_
                       | refine ite_t (eqs_i rfl rfl) ?_
                       | exact rfl
                   simp only [app_cons, app_nil])
                | (refine wp_lt rfl ?_; simp only [app_cons, app_nil])
                | (refine wp_ite rfl (fun hc => ?_) (fun hc => ?_) <;> first | exact absurd hc (by decide) | exact absurd hc (by rw [hwv]; decide) | skip)
              all_goals (refine wp_cont rfl rfl (hQ2 _ ?_); simp_all)
            | false =>
              rw [hsm] at hcS
              have hd : dW e s.w3 = s.w3 := by unfold dW; rw [if_neg (by simp [hsm])]
              rw [hd]
              repeat' first
                | refine wp_chk rfl ?_
                | (refine wp_call rfl hcS rfl ?_; simp only [lv_cons, lv_nil, app_cons, app_nil])
                | (refine wp_lt (not_e (t := true) ?_) ?_
                   focus
                     refine ite_t (eqs_b rfl rfl) ?_
                     repeat' first
                       | refine ite_t (eqs_b rfl rfl) ?_
                       | refine ite_t (eqs_i rfl rfl) ?_
                       | exact rfl
                   simp only [app_cons, app_nil])
                | (refine wp_lt rfl ?_; simp only [app_cons, app_nil])
                | (refine wp_ite rfl (fun hc => ?_) (fun hc => ?_) <;> first | exact absurd hc (by decide) | exact absurd hc (by rw [hwv]; decide) | skip)
              all_goals (refine wp_cont rfl rfl (hQ2 _ ?_); simp_all)
        · intro Q1 hQ1
          have hcS := same_con (e := e) (f := s.w3)
          repeat' first
            | refine wp_chk rfl ?_
            | (refine wp_call rfl hcS rfl ?_; simp only [lv_cons, lv_nil, app_cons, app_nil])
            | (refine wp_lt (not_e (t := true) ?_) ?_
               focus
                 refine ite_t (eqs_b rfl rfl) ?_
                 repeat' first
                   | refine ite_t (eqs_b rfl rfl) ?_
                   | refine ite_t (eqs_i rfl rfl) ?_
                   | exact rfl
               simp only [app_cons, app_nil])
            | (refine wp_lt rfl ?_; simp only [app_cons, app_nil])
            | (refine wp_ite rfl (fun hc => ?_) (fun hc => ?_) <;> first | exact absurd hc (by decide) | exact absurd hc (by rw [hwv]; decide) | skip)
          all_goals (refine wp_cont rfl rfl (hQ1 _ ?_); simp_all [empT, empF])
      · refine wp_lt (d := .b false) rfl ?_
        simp only [lv_cons, lv_nil, app_cons, app_nil]
        refine wp_ite (t := false) rfl (fun h => by cases h) (fun _ => ?_)
        refine wp_jn (fun es => es = [.b (empF e (s.at 0))]) ?_ ?_
        rotate_left
        · intro Q1 hQ1
          have hcS := same_con (e := e) (f := s.w0)
          repeat' first
            | refine wp_chk rfl ?_
            | (refine wp_call rfl hcS rfl ?_; simp only [lv_cons, lv_nil, app_cons, app_nil])
            | (refine wp_lt (not_e (t := true) ?_) ?_
               focus
                 refine ite_t (eqs_b rfl rfl) ?_
                 repeat' first
                   | refine ite_t (eqs_b rfl rfl) ?_
                   | refine ite_t (eqs_i rfl rfl) ?_
                   | exact rfl
               simp only [app_cons, app_nil])
            | (refine wp_lt rfl ?_; simp only [app_cons, app_nil])
            | (refine wp_ite rfl (fun hc => ?_) (fun hc => ?_) <;> first | exact absurd hc (by decide) | exact absurd hc (by rw [hwv]; decide) | skip)
          all_goals (refine wp_cont rfl rfl (hQ1 _ ?_); simp_all [empF, SetD.at])
        rintro es rfl
        simp only [app_cons, app_nil]
        refine wp_jn (fun es => es = [.b false]) ?_ ?_
        rotate_left
        · intro Q2 hQ2
          clear hcr hfd hp
          have hcS := same_con (e := e) (f := s.w0)
          repeat' first
            | refine wp_chk rfl ?_
            | (refine wp_call rfl hcS rfl ?_; simp only [lv_cons, lv_nil, app_cons, app_nil])
            | (refine wp_lt (not_e (t := true) ?_) ?_
               focus
                 refine ite_t (eqs_b rfl rfl) ?_
                 repeat' first
                   | refine ite_t (eqs_b rfl rfl) ?_
                   | refine ite_t (eqs_i rfl rfl) ?_
                   | exact rfl
               simp only [app_cons, app_nil])
            | (refine wp_lt rfl ?_; simp only [app_cons, app_nil])
            | (refine wp_ite rfl (fun hc => ?_) (fun hc => ?_) <;> first | exact absurd hc (by decide) | exact absurd hc (by rw [hwv]; decide) | skip)
          all_goals
            refine wp_cont rfl rfl (hQ2 _ ?_)
            simp only [decide_eq_true_eq, decide_eq_false_iff_not, ge_iff_le, gt_iff_lt, Int.not_le, Int.not_lt, bne_iff_ne, ne_eq, Decidable.not_not] at * <;>
            first
              | rfl
              | (exfalso; have := hT ⟨by omega, by omega⟩; omega)
              | (rw [hE (by omega) (by assumption)]; rfl)
        rintro es rfl
        simp only [app_cons, app_nil]
        refine wp_ite (t := false) rfl (fun h => by cases h) (fun _ => ?_)
        refine wp_call rfl (refOf_con (n := e.vpn)) rfl ?_
        simp only [lv_cons, lv_nil, app_cons, app_nil]
        refine wp_call rfl hfd rfl ?_
        simp only [lv_cons, lv_nil, app_cons, app_nil]
        refine wp_jn (fun es => es = [.b true]) ?_ ?_
        · rintro es rfl
          simp only [app_cons, app_nil]
          exact wp_return rfl rfl
        · intro Q3 hQ3
          refine wp_ite (t := true) rfl (fun _ => ?_) (fun h => by cases h)
          refine wp_lt (d := .b true) ?_ ?_
          · show some (D.b (decide (fw ≤ 0))) = _
            rw [decide_eq_true (show fw ≤ 0 by omega)]
          simp only [lv_cons, lv_nil, app_cons, app_nil]
          refine wp_ite (t := true) rfl (fun _ => ?_) (fun h => by cases h)
          refine wp_call rfl (victim_con (t := touN s.t 0) (touN_lt ht8 (by omega))).2 rfl ?_
          simp only [lv_cons, lv_nil, app_cons, app_nil]
          have hvl := vicN_lt (t := touN s.t 0) (touN_lt ht8 (by omega))
          refine wp_lt (i_quo (b := 2) rfl rfl (by omega) (by omega)) ?_
          simp only [lv_cons, lv_nil, app_cons, app_nil]
          refine wp_lt (i_quo (a := 0) (b := 2) rfl rfl (by omega) (by omega)) ?_
          simp only [lv_cons, lv_nil, app_cons, app_nil]
          refine wp_lt (d := .b true) ?_ ?_
          · have hva := vic_away (t := s.t) (k := 0) ht8 (by omega)
            show some (D.b (((vicN (touN s.t 0) / 2 : Nat) : Int) != ((0 / 2 : Nat) : Int))) = _
            congr 2
            rw [bne_iff_ne]
            omega
          simp only [lv_cons, lv_nil, app_cons, app_nil]
          exact wp_cont rfl rfl (hQ3 _ rfl)
  · rw [putW_1] at hp hcr hfd
    refine wp_call rfl hp rfl ?_
    simp only [lv_cons, lv_nil, SetD.ds, En.ds, app_cons, app_nil]
    refine wp_jn (fun es => es = [.b false]) ?_ ?_
    rotate_left
    · intro Q hQ
      refine wp_lt (d := .b false) rfl ?_
      simp only [lv_cons, lv_nil, app_cons, app_nil]
      refine wp_ite (t := false) rfl (fun h => by cases h) (fun _ => ?_)
      refine wp_lt (d := .b false) rfl ?_
      simp only [lv_cons, lv_nil, app_cons, app_nil]
      refine wp_ite (t := false) rfl (fun h => by cases h) (fun _ => ?_)
      refine wp_chk rfl ?_
      refine wp_lt (not_e (t := true) (by
        repeat' first
          | refine ite_t (eqs_b rfl rfl) ?_
          | refine ite_t (eqs_i rfl rfl) ?_
          | exact rfl)) ?_
      simp only [lv_cons, lv_nil, app_cons, app_nil]
      refine wp_ite (t := false) rfl (fun h => by cases h) (fun _ => ?_)
      refine wp_call rfl hcr rfl ?_
      simp only [lv_cons, lv_nil, app_cons, app_nil]
      refine wp_lt (d := .b false) rfl ?_
      simp only [lv_cons, lv_nil, app_cons, app_nil]
      refine wp_ite (t := false) rfl (fun h => by cases h) (fun _ => ?_)
      refine wp_call rfl (refUnlike_con (s := s)) rfl ?_
      simp only [lv_cons, lv_nil, app_cons, app_nil]
      refine wp_ite rfl (fun hu => ?_) (fun hu => ?_)
      · have hux := putW_unlike (e := e) (k := 1) hu (by omega)
        have hcu := refUnlike_con (s := putW e s 1)
        rw [hux, putW_1] at hcu
        refine wp_call rfl hcu rfl ?_
        simp only [lv_cons, lv_nil, app_cons, app_nil]
        refine wp_lt (d := .b false) rfl ?_
        simp only [lv_cons, lv_nil, app_cons, app_nil]
        exact wp_cont rfl rfl (hQ _ rfl)
      · exact wp_cont rfl rfl (hQ _ rfl)
    · rintro es rfl
      simp only [app_cons, app_nil]
      refine wp_ite (t := false) rfl (fun h => by cases h) (fun _ => ?_)
      refine wp_rounds (fun m ds => ∃ (b : Bool) (n : Nat), ds = [.b b, .b (empT e s n), I n] ∧ n + m = 5 ∧ n ≤ 4) 5 rfl ⟨false, 0, rfl, by omega, by omega⟩ ?_
        (fun es hes => by obtain ⟨_, n, _, h1, h2⟩ := hes; omega)
      rintro m es Q ⟨b, n, rfl, hn, hn'⟩ hQ
      simp only [app_cons, app_nil]
      have hcase : n = 0 ∨ n = 1 ∨ n = 2 ∨ n = 3 ∨ n = 4 := by omega
      rcases hcase with rfl | rfl | rfl | rfl | rfl
      · refine wp_lt (d := .b true) rfl ?_
        simp only [lv_cons, lv_nil, app_cons, app_nil]
        refine wp_ite (t := true) rfl (fun _ => ?_) (fun h => by cases h)
        refine wp_jn (fun es => es = [.b (empT e s (0 + 1))]) ?_ ?_
        · rintro es rfl
          simp only [app_cons, app_nil]
          refine wp_jn (fun es => es = [.b false]) ?_ ?_
          · rintro es rfl
            simp only [app_cons, app_nil]
            refine wp_ite (t := false) rfl (fun h => by cases h) (fun _ => ?_)
            refine wp_lt (d := I (0 + 1 : Nat)) rfl ?_
            simp only [lv_cons, lv_nil, app_cons, app_nil]
            exact wp_cont rfl rfl (hQ _ ⟨_, 0 + 1, rfl, by omega, by omega⟩)
          · intro Q2 hQ2
            have hcS := same_con (e := e) (f := s.w0)
            cases hsm : sameF e s.w0 with
            | true =>
              rw [hsm] at hcS
              have hd : dW e s.w0 = En.zero := by unfold dW; rw [if_pos hsm]
              have hwv := same_v hsm
              rw [hd]
              simp only [En.zero]
              repeat' first
                | refine wp_chk rfl ?_
                | (refine wp_call rfl hcS rfl ?_; simp only [lv_cons, lv_nil, app_cons, app_nil])
                | (refine wp_lt (not_e (t := true) ?_) ?_
                   focus
                     refine ite_t (eqs_b rfl rfl) ?_
                     repeat' first
                       | refine ite_t (eqs_b rfl rfl) ?_
                       | refine ite_t (eqs_i rfl rfl) ?_
                       | exact rfl
                   simp only [app_cons, app_nil])
                | (refine wp_lt rfl ?_; simp only [app_cons, app_nil])
                | (refine wp_ite rfl (fun hc => ?_) (fun hc => ?_) <;> first | exact absurd hc (by decide) | exact absurd hc (by rw [hwv]; decide) | skip)
              all_goals (refine wp_cont rfl rfl (hQ2 _ ?_); simp_all)
            | false =>
              rw [hsm] at hcS
              have hd : dW e s.w0 = s.w0 := by unfold dW; rw [if_neg (by simp [hsm])]
              rw [hd]
              repeat' first
                | refine wp_chk rfl ?_
                | (refine wp_call rfl hcS rfl ?_; simp only [lv_cons, lv_nil, app_cons, app_nil])
                | (refine wp_lt (not_e (t := true) ?_) ?_
                   focus
                     refine ite_t (eqs_b rfl rfl) ?_
                     repeat' first
                       | refine ite_t (eqs_b rfl rfl) ?_
                       | refine ite_t (eqs_i rfl rfl) ?_
                       | exact rfl
                   simp only [app_cons, app_nil])
                | (refine wp_lt rfl ?_; simp only [app_cons, app_nil])
                | (refine wp_ite rfl (fun hc => ?_) (fun hc => ?_) <;> first | exact absurd hc (by decide) | exact absurd hc (by rw [hwv]; decide) | skip)
              all_goals (refine wp_cont rfl rfl (hQ2 _ ?_); simp_all)
        · intro Q1 hQ1
          have hcS := same_con (e := e) (f := s.w0)
          repeat' first
            | refine wp_chk rfl ?_
            | (refine wp_call rfl hcS rfl ?_; simp only [lv_cons, lv_nil, app_cons, app_nil])
            | (refine wp_lt (not_e (t := true) ?_) ?_
               focus
                 refine ite_t (eqs_b rfl rfl) ?_
                 repeat' first
                   | refine ite_t (eqs_b rfl rfl) ?_
                   | refine ite_t (eqs_i rfl rfl) ?_
                   | exact rfl
               simp only [app_cons, app_nil])
            | (refine wp_lt rfl ?_; simp only [app_cons, app_nil])
            | (refine wp_ite rfl (fun hc => ?_) (fun hc => ?_) <;> first | exact absurd hc (by decide) | exact absurd hc (by rw [hwv]; decide) | skip)
          all_goals (refine wp_cont rfl rfl (hQ1 _ ?_); simp_all [empT, empF])
      · refine wp_lt (d := .b true) rfl ?_
        simp only [lv_cons, lv_nil, app_cons, app_nil]
        refine wp_ite (t := true) rfl (fun _ => ?_) (fun h => by cases h)
        refine wp_jn (fun es => es = [.b (empT e s (1 + 1))]) ?_ ?_
        · rintro es rfl
          simp only [app_cons, app_nil]
          refine wp_jn (fun es => es = [.b false]) ?_ ?_
          · rintro es rfl
            simp only [app_cons, app_nil]
            refine wp_ite (t := false) rfl (fun h => by cases h) (fun _ => ?_)
            refine wp_lt (d := I (1 + 1 : Nat)) rfl ?_
            simp only [lv_cons, lv_nil, app_cons, app_nil]
            exact wp_cont rfl rfl (hQ _ ⟨_, 1 + 1, rfl, by omega, by omega⟩)
          · intro Q2 hQ2
            refine wp_lt (d := .b false) rfl ?_
            simp only [lv_cons, lv_nil, app_cons, app_nil]
            refine wp_ite (t := false) rfl (fun h => by cases h) (fun _ => ?_)
            refine wp_lt (d := .b false) rfl ?_
            simp only [lv_cons, lv_nil, app_cons, app_nil]
            refine wp_ite (t := false) rfl (fun h => by cases h) (fun _ => ?_)
            exact wp_cont rfl rfl (hQ2 _ rfl)
        · intro Q1 hQ1
          have hcS := same_con (e := e) (f := s.w1)
          repeat' first
            | refine wp_chk rfl ?_
            | (refine wp_call rfl hcS rfl ?_; simp only [lv_cons, lv_nil, app_cons, app_nil])
            | (refine wp_lt (not_e (t := true) ?_) ?_
               focus
                 refine ite_t (eqs_b rfl rfl) ?_
                 repeat' first
                   | refine ite_t (eqs_b rfl rfl) ?_
                   | refine ite_t (eqs_i rfl rfl) ?_
                   | exact rfl
               simp only [app_cons, app_nil])
            | (refine wp_lt rfl ?_; simp only [app_cons, app_nil])
            | (refine wp_ite rfl (fun hc => ?_) (fun hc => ?_) <;> first | exact absurd hc (by decide) | exact absurd hc (by rw [hwv]; decide) | skip)
          all_goals (refine wp_cont rfl rfl (hQ1 _ ?_); simp_all [empT, empF])
      · refine wp_lt (d := .b true) rfl ?_
        simp only [lv_cons, lv_nil, app_cons, app_nil]
        refine wp_ite (t := true) rfl (fun _ => ?_) (fun h => by cases h)
        refine wp_jn (fun es => es = [.b (empT e s (2 + 1))]) ?_ ?_
        · rintro es rfl
          simp only [app_cons, app_nil]
          refine wp_jn (fun es => es = [.b false]) ?_ ?_
          · rintro es rfl
            simp only [app_cons, app_nil]
            refine wp_ite (t := false) rfl (fun h => by cases h) (fun _ => ?_)
            refine wp_lt (d := I (2 + 1 : Nat)) rfl ?_
            simp only [lv_cons, lv_nil, app_cons, app_nil]
            exact wp_cont rfl rfl (hQ _ ⟨_, 2 + 1, rfl, by omega, by omega⟩)
          · intro Q2 hQ2
            have hcS := same_con (e := e) (f := s.w2)
            cases hsm : sameF e s.w2 with
            | true =>
              rw [hsm] at hcS
              have hd : dW e s.w2 = En.zero := by unfold dW; rw [if_pos hsm]
              have hwv := same_v hsm
              rw [hd]
              simp only [En.zero]
              repeat' first
                | refine wp_chk rfl ?_
                | (refine wp_call rfl hcS rfl ?_; simp only [lv_cons, lv_nil, app_cons, app_nil])
                | (refine wp_lt (not_e (t := true) ?_) ?_
                   focus
                     refine ite_t (eqs_b rfl rfl) ?_
                     repeat' first
                       | refine ite_t (eqs_b rfl rfl) ?_
                       | refine ite_t (eqs_i rfl rfl) ?_
                       | exact rfl
                   simp only [app_cons, app_nil])
                | (refine wp_lt rfl ?_; simp only [app_cons, app_nil])
                | (refine wp_ite rfl (fun hc => ?_) (fun hc => ?_) <;> first | exact absurd hc (by decide) | exact absurd hc (by rw [hwv]; decide) | skip)
              all_goals (refine wp_cont rfl rfl (hQ2 _ ?_); simp_all)
            | false =>
              rw [hsm] at hcS
              have hd : dW e s.w2 = s.w2 := by unfold dW; rw [if_neg (by simp [hsm])]
              rw [hd]
              repeat' first
                | refine wp_chk rfl ?_
                | (refine wp_call rfl hcS rfl ?_; simp only [lv_cons, lv_nil, app_cons, app_nil])
                | (refine wp_lt (not_e (t := true) ?_) ?_
                   focus
                     refine ite_t (eqs_b rfl rfl) ?_
                     repeat' first
                       | refine ite_t (eqs_b rfl rfl) ?_
                       | refine ite_t (eqs_i rfl rfl) ?_
                       | exact rfl
                   simp only [app_cons, app_nil])
                | (refine wp_lt rfl ?_; simp only [app_cons, app_nil])
                | (refine wp_ite rfl (fun hc => ?_) (fun hc => ?_) <;> first | exact absurd hc (by decide) | exact absurd hc (by rw [hwv]; decide) | skip)
              all_goals (refine wp_cont rfl rfl (hQ2 _ ?_); simp_all)
        · intro Q1 hQ1
          have hcS := same_con (e := e) (f := s.w2)
          repeat' first
            | refine wp_chk rfl ?_
            | (refine wp_call rfl hcS rfl ?_; simp only [lv_cons, lv_nil, app_cons, app_nil])
            | (refine wp_lt (not_e (t := true) ?_) ?_
               focus
                 refine ite_t (eqs_b rfl rfl) ?_
                 repeat' first
                   | refine ite_t (eqs_b rfl rfl) ?_
                   | refine ite_t (eqs_i rfl rfl) ?_
                   | exact rfl
               simp only [app_cons, app_nil])
            | (refine wp_lt rfl ?_; simp only [app_cons, app_nil])
            | (refine wp_ite rfl (fun hc => ?_) (fun hc => ?_) <;> first | exact absurd hc (by decide) | exact absurd hc (by rw [hwv]; decide) | skip)
          all_goals (refine wp_cont rfl rfl (hQ1 _ ?_); simp_all [empT, empF])
      · refine wp_lt (d := .b true) rfl ?_
        simp only [lv_cons, lv_nil, app_cons, app_nil]
        refine wp_ite (t := true) rfl (fun _ => ?_) (fun h => by cases h)
        refine wp_jn (fun es => es = [.b (empT e s (3 + 1))]) ?_ ?_
        · rintro es rfl
          simp only [app_cons, app_nil]
          refine wp_jn (fun es => es = [.b false]) ?_ ?_
          · rintro es rfl
            simp only [app_cons, app_nil]
            refine wp_ite (t := false) rfl (fun h => by cases h) (fun _ => ?_)
            refine wp_lt (d := I (3 + 1 : Nat)) rfl ?_
            simp only [lv_cons, lv_nil, app_cons, app_nil]
            exact wp_cont rfl rfl (hQ _ ⟨_, 3 + 1, rfl, by omega, by omega⟩)
          · intro Q2 hQ2
            have hcS := same_con (e := e) (f := s.w3)
            cases hsm : sameF e s.w3 with
            | true =>
              rw [hsm] at hcS
              have hd : dW e s.w3 = En.zero := by unfold dW; rw [if_pos hsm]
              have hwv := same_v hsm
              rw [hd]
              simp only [En.zero]
              repeat' first
                | refine wp_chk rfl ?_
                | (refine wp_call rfl hcS rfl ?_; simp only [lv_cons, lv_nil, app_cons, app_nil])
                | (refine wp_lt (not_e (t := true) ?_) ?_
                   focus
                     refine ite_t (eqs_b rfl rfl) ?_
                     repeat' first
                       | refine ite_t (eqs_b rfl rfl) ?_
                       | refine ite_t (eqs_i rfl rfl) ?_
                       | exact rfl
                   simp only [app_cons, app_nil])
                | (refine wp_lt rfl ?_; simp only [app_cons, app_nil])
                | (refine wp_ite rfl (fun hc => ?_) (fun hc => ?_) <;> first | exact absurd hc (by decide) | exact absurd hc (by rw [hwv]; decide) | skip)
              all_goals (refine wp_cont rfl rfl (hQ2 _ ?_); simp_all)
            | false =>
              rw [hsm] at hcS
              have hd : dW e s.w3 = s.w3 := by unfold dW; rw [if_neg (by simp [hsm])]
              rw [hd]
              repeat' first
                | refine wp_chk rfl ?_
                | (refine wp_call rfl hcS rfl ?_; simp only [lv_cons, lv_nil, app_cons, app_nil])
                | (refine wp_lt (not_e (t := true) ?_) ?_
                   focus
                     refine ite_t (eqs_b rfl rfl) ?_
                     repeat' first
                       | refine ite_t (eqs_b rfl rfl) ?_
                       | refine ite_t (eqs_i rfl rfl) ?_
                       | exact rfl
                   simp only [app_cons, app_nil])
                | (refine wp_lt rfl ?_; simp only [app_cons, app_nil])
                | (refine wp_ite rfl (fun hc => ?_) (fun hc => ?_) <;> first | exact absurd hc (by decide) | exact absurd hc (by rw [hwv]; decide) | skip)
              all_goals (refine wp_cont rfl rfl (hQ2 _ ?_); simp_all)
        · intro Q1 hQ1
          have hcS := same_con (e := e) (f := s.w3)
          repeat' first
            | refine wp_chk rfl ?_
            | (refine wp_call rfl hcS rfl ?_; simp only [lv_cons, lv_nil, app_cons, app_nil])
            | (refine wp_lt (not_e (t := true) ?_) ?_
               focus
                 refine ite_t (eqs_b rfl rfl) ?_
                 repeat' first
                   | refine ite_t (eqs_b rfl rfl) ?_
                   | refine ite_t (eqs_i rfl rfl) ?_
                   | exact rfl
               simp only [app_cons, app_nil])
            | (refine wp_lt rfl ?_; simp only [app_cons, app_nil])
            | (refine wp_ite rfl (fun hc => ?_) (fun hc => ?_) <;> first | exact absurd hc (by decide) | exact absurd hc (by rw [hwv]; decide) | skip)
          all_goals (refine wp_cont rfl rfl (hQ1 _ ?_); simp_all [empT, empF])
      · refine wp_lt (d := .b false) rfl ?_
        simp only [lv_cons, lv_nil, app_cons, app_nil]
        refine wp_ite (t := false) rfl (fun h => by cases h) (fun _ => ?_)
        refine wp_jn (fun es => es = [.b (empF e (s.at 1))]) ?_ ?_
        rotate_left
        · intro Q1 hQ1
          have hcS := same_con (e := e) (f := s.w1)
          repeat' first
            | refine wp_chk rfl ?_
            | (refine wp_call rfl hcS rfl ?_; simp only [lv_cons, lv_nil, app_cons, app_nil])
            | (refine wp_lt (not_e (t := true) ?_) ?_
               focus
                 refine ite_t (eqs_b rfl rfl) ?_
                 repeat' first
                   | refine ite_t (eqs_b rfl rfl) ?_
                   | refine ite_t (eqs_i rfl rfl) ?_
                   | exact rfl
               simp only [app_cons, app_nil])
            | (refine wp_lt rfl ?_; simp only [app_cons, app_nil])
            | (refine wp_ite rfl (fun hc => ?_) (fun hc => ?_) <;> first | exact absurd hc (by decide) | exact absurd hc (by rw [hwv]; decide) | skip)
          all_goals (refine wp_cont rfl rfl (hQ1 _ ?_); simp_all [empF, SetD.at])
        rintro es rfl
        simp only [app_cons, app_nil]
        refine wp_jn (fun es => es = [.b false]) ?_ ?_
        rotate_left
        · intro Q2 hQ2
          clear hcr hfd hp
          have hcS := same_con (e := e) (f := s.w1)
          repeat' first
            | refine wp_chk rfl ?_
            | (refine wp_call rfl hcS rfl ?_; simp only [lv_cons, lv_nil, app_cons, app_nil])
            | (refine wp_lt (not_e (t := true) ?_) ?_
               focus
                 refine ite_t (eqs_b rfl rfl) ?_
                 repeat' first
                   | refine ite_t (eqs_b rfl rfl) ?_
                   | refine ite_t (eqs_i rfl rfl) ?_
                   | exact rfl
               simp only [app_cons, app_nil])
            | (refine wp_lt rfl ?_; simp only [app_cons, app_nil])
            | (refine wp_ite rfl (fun hc => ?_) (fun hc => ?_) <;> first | exact absurd hc (by decide) | exact absurd hc (by rw [hwv]; decide) | skip)
          all_goals
            refine wp_cont rfl rfl (hQ2 _ ?_)
            simp only [decide_eq_true_eq, decide_eq_false_iff_not, ge_iff_le, gt_iff_lt, Int.not_le, Int.not_lt, bne_iff_ne, ne_eq, Decidable.not_not] at * <;>
            first
              | rfl
              | (exfalso; have := hT ⟨by omega, by omega⟩; omega)
              | (rw [hE (by omega) (by assumption)]; rfl)
        rintro es rfl
        simp only [app_cons, app_nil]
        refine wp_ite (t := false) rfl (fun h => by cases h) (fun _ => ?_)
        refine wp_call rfl (refOf_con (n := e.vpn)) rfl ?_
        simp only [lv_cons, lv_nil, app_cons, app_nil]
        refine wp_call rfl hfd rfl ?_
        simp only [lv_cons, lv_nil, app_cons, app_nil]
        refine wp_jn (fun es => es = [.b true]) ?_ ?_
        · rintro es rfl
          simp only [app_cons, app_nil]
          exact wp_return rfl rfl
        · intro Q3 hQ3
          refine wp_ite (t := true) rfl (fun _ => ?_) (fun h => by cases h)
          refine wp_lt (d := .b true) ?_ ?_
          · show some (D.b (decide (fw ≤ 1))) = _
            rw [decide_eq_true (show fw ≤ 1 by omega)]
          simp only [lv_cons, lv_nil, app_cons, app_nil]
          refine wp_ite (t := true) rfl (fun _ => ?_) (fun h => by cases h)
          refine wp_call rfl (victim_con (t := touN s.t 1) (touN_lt ht8 (by omega))).2 rfl ?_
          simp only [lv_cons, lv_nil, app_cons, app_nil]
          have hvl := vicN_lt (t := touN s.t 1) (touN_lt ht8 (by omega))
          refine wp_lt (i_quo (b := 2) rfl rfl (by omega) (by omega)) ?_
          simp only [lv_cons, lv_nil, app_cons, app_nil]
          refine wp_lt (i_quo (a := 1) (b := 2) rfl rfl (by omega) (by omega)) ?_
          simp only [lv_cons, lv_nil, app_cons, app_nil]
          refine wp_lt (d := .b true) ?_ ?_
          · have hva := vic_away (t := s.t) (k := 1) ht8 (by omega)
            show some (D.b (((vicN (touN s.t 1) / 2 : Nat) : Int) != ((1 / 2 : Nat) : Int))) = _
            congr 2
            rw [bne_iff_ne]
            omega
          simp only [lv_cons, lv_nil, app_cons, app_nil]
          exact wp_cont rfl rfl (hQ3 _ rfl)
  · rw [putW_2] at hp hcr hfd
    refine wp_call rfl hp rfl ?_
    simp only [lv_cons, lv_nil, SetD.ds, En.ds, app_cons, app_nil]
    refine wp_jn (fun es => es = [.b false]) ?_ ?_
    rotate_left
    · intro Q hQ
      refine wp_lt (d := .b false) rfl ?_
      simp only [lv_cons, lv_nil, app_cons, app_nil]
      refine wp_ite (t := false) rfl (fun h => by cases h) (fun _ => ?_)
      refine wp_lt (d := .b false) rfl ?_
      simp only [lv_cons, lv_nil, app_cons, app_nil]
      refine wp_ite (t := false) rfl (fun h => by cases h) (fun _ => ?_)
      refine wp_chk rfl ?_
      refine wp_lt (not_e (t := true) (by
        repeat' first
          | refine ite_t (eqs_b rfl rfl) ?_
          | refine ite_t (eqs_i rfl rfl) ?_
          | exact rfl)) ?_
      simp only [lv_cons, lv_nil, app_cons, app_nil]
      refine wp_ite (t := false) rfl (fun h => by cases h) (fun _ => ?_)
      refine wp_call rfl hcr rfl ?_
      simp only [lv_cons, lv_nil, app_cons, app_nil]
      refine wp_lt (d := .b false) rfl ?_
      simp only [lv_cons, lv_nil, app_cons, app_nil]
      refine wp_ite (t := false) rfl (fun h => by cases h) (fun _ => ?_)
      refine wp_call rfl (refUnlike_con (s := s)) rfl ?_
      simp only [lv_cons, lv_nil, app_cons, app_nil]
      refine wp_ite rfl (fun hu => ?_) (fun hu => ?_)
      · have hux := putW_unlike (e := e) (k := 2) hu (by omega)
        have hcu := refUnlike_con (s := putW e s 2)
        rw [hux, putW_2] at hcu
        refine wp_call rfl hcu rfl ?_
        simp only [lv_cons, lv_nil, app_cons, app_nil]
        refine wp_lt (d := .b false) rfl ?_
        simp only [lv_cons, lv_nil, app_cons, app_nil]
        exact wp_cont rfl rfl (hQ _ rfl)
      · exact wp_cont rfl rfl (hQ _ rfl)
    · rintro es rfl
      simp only [app_cons, app_nil]
      refine wp_ite (t := false) rfl (fun h => by cases h) (fun _ => ?_)
      refine wp_rounds (fun m ds => ∃ (b : Bool) (n : Nat), ds = [.b b, .b (empT e s n), I n] ∧ n + m = 5 ∧ n ≤ 4) 5 rfl ⟨false, 0, rfl, by omega, by omega⟩ ?_
        (fun es hes => by obtain ⟨_, n, _, h1, h2⟩ := hes; omega)
      rintro m es Q ⟨b, n, rfl, hn, hn'⟩ hQ
      simp only [app_cons, app_nil]
      have hcase : n = 0 ∨ n = 1 ∨ n = 2 ∨ n = 3 ∨ n = 4 := by omega
      rcases hcase with rfl | rfl | rfl | rfl | rfl
      · refine wp_lt (d := .b true) rfl ?_
        simp only [lv_cons, lv_nil, app_cons, app_nil]
        refine wp_ite (t := true) rfl (fun _ => ?_) (fun h => by cases h)
        refine wp_jn (fun es => es = [.b (empT e s (0 + 1))]) ?_ ?_
        · rintro es rfl
          simp only [app_cons, app_nil]
          refine wp_jn (fun es => es = [.b false]) ?_ ?_
          · rintro es rfl
            simp only [app_cons, app_nil]
            refine wp_ite (t := false) rfl (fun h => by cases h) (fun _ => ?_)
            refine wp_lt (d := I (0 + 1 : Nat)) rfl ?_
            simp only [lv_cons, lv_nil, app_cons, app_nil]
            exact wp_cont rfl rfl (hQ _ ⟨_, 0 + 1, rfl, by omega, by omega⟩)
          · intro Q2 hQ2
            have hcS := same_con (e := e) (f := s.w0)
            cases hsm : sameF e s.w0 with
            | true =>
              rw [hsm] at hcS
              have hd : dW e s.w0 = En.zero := by unfold dW; rw [if_pos hsm]
              have hwv := same_v hsm
              rw [hd]
              simp only [En.zero]
              repeat' first
                | refine wp_chk rfl ?_
                | (refine wp_call rfl hcS rfl ?_; simp only [lv_cons, lv_nil, app_cons, app_nil])
                | (refine wp_lt (not_e (t := true) ?_) ?_
                   focus
                     refine ite_t (eqs_b rfl rfl) ?_
                     repeat' first
                       | refine ite_t (eqs_b rfl rfl) ?_
                       | refine ite_t (eqs_i rfl rfl) ?_
                       | exact rfl
                   simp only [app_cons, app_nil])
                | (refine wp_lt rfl ?_; simp only [app_cons, app_nil])
                | (refine wp_ite rfl (fun hc => ?_) (fun hc => ?_) <;> first | exact absurd hc (by decide) | exact absurd hc (by rw [hwv]; decide) | skip)
              all_goals (refine wp_cont rfl rfl (hQ2 _ ?_); simp_all)
            | false =>
              rw [hsm] at hcS
              have hd : dW e s.w0 = s.w0 := by unfold dW; rw [if_neg (by simp [hsm])]
              rw [hd]
              repeat' first
                | refine wp_chk rfl ?_
                | (refine wp_call rfl hcS rfl ?_; simp only [lv_cons, lv_nil, app_cons, app_nil])
                | (refine wp_lt (not_e (t := true) ?_) ?_
                   focus
                     refine ite_t (eqs_b rfl rfl) ?_
                     repeat' first
                       | refine ite_t (eqs_b rfl rfl) ?_
                       | refine ite_t (eqs_i rfl rfl) ?_
                       | exact rfl
                   simp only [app_cons, app_nil])
                | (refine wp_lt rfl ?_; simp only [app_cons, app_nil])
                | (refine wp_ite rfl (fun hc => ?_) (fun hc => ?_) <;> first | exact absurd hc (by decide) | exact absurd hc (by rw [hwv]; decide) | skip)
              all_goals (refine wp_cont rfl rfl (hQ2 _ ?_); simp_all)
        · intro Q1 hQ1
          have hcS := same_con (e := e) (f := s.w0)
          repeat' first
            | refine wp_chk rfl ?_
            | (refine wp_call rfl hcS rfl ?_; simp only [lv_cons, lv_nil, app_cons, app_nil])
            | (refine wp_lt (not_e (t := true) ?_) ?_
               focus
                 refine ite_t (eqs_b rfl rfl) ?_
                 repeat' first
                   | refine ite_t (eqs_b rfl rfl) ?_
                   | refine ite_t (eqs_i rfl rfl) ?_
                   | exact rfl
               simp only [app_cons, app_nil])
            | (refine wp_lt rfl ?_; simp only [app_cons, app_nil])
            | (refine wp_ite rfl (fun hc => ?_) (fun hc => ?_) <;> first | exact absurd hc (by decide) | exact absurd hc (by rw [hwv]; decide) | skip)
          all_goals (refine wp_cont rfl rfl (hQ1 _ ?_); simp_all [empT, empF])
      · refine wp_lt (d := .b true) rfl ?_
        simp only [lv_cons, lv_nil, app_cons, app_nil]
        refine wp_ite (t := true) rfl (fun _ => ?_) (fun h => by cases h)
        refine wp_jn (fun es => es = [.b (empT e s (1 + 1))]) ?_ ?_
        · rintro es rfl
          simp only [app_cons, app_nil]
          refine wp_jn (fun es => es = [.b false]) ?_ ?_
          · rintro es rfl
            simp only [app_cons, app_nil]
            refine wp_ite (t := false) rfl (fun h => by cases h) (fun _ => ?_)
            refine wp_lt (d := I (1 + 1 : Nat)) rfl ?_
            simp only [lv_cons, lv_nil, app_cons, app_nil]
            exact wp_cont rfl rfl (hQ _ ⟨_, 1 + 1, rfl, by omega, by omega⟩)
          · intro Q2 hQ2
            have hcS := same_con (e := e) (f := s.w1)
            cases hsm : sameF e s.w1 with
            | true =>
              rw [hsm] at hcS
              have hd : dW e s.w1 = En.zero := by unfold dW; rw [if_pos hsm]
              have hwv := same_v hsm
              rw [hd]
              simp only [En.zero]
              repeat' first
                | refine wp_chk rfl ?_
                | (refine wp_call rfl hcS rfl ?_; simp only [lv_cons, lv_nil, app_cons, app_nil])
                | (refine wp_lt (not_e (t := true) ?_) ?_
                   focus
                     refine ite_t (eqs_b rfl rfl) ?_
                     repeat' first
                       | refine ite_t (eqs_b rfl rfl) ?_
                       | refine ite_t (eqs_i rfl rfl) ?_
                       | exact rfl
                   simp only [app_cons, app_nil])
                | (refine wp_lt rfl ?_; simp only [app_cons, app_nil])
                | (refine wp_ite rfl (fun hc => ?_) (fun hc => ?_) <;> first | exact absurd hc (by decide) | exact absurd hc (by rw [hwv]; decide) | skip)
              all_goals (refine wp_cont rfl rfl (hQ2 _ ?_); simp_all)
            | false =>
              rw [hsm] at hcS
              have hd : dW e s.w1 = s.w1 := by unfold dW; rw [if_neg (by simp [hsm])]
              rw [hd]
              repeat' first
                | refine wp_chk rfl ?_
                | (refine wp_call rfl hcS rfl ?_; simp only [lv_cons, lv_nil, app_cons, app_nil])
                | (refine wp_lt (not_e (t := true) ?_) ?_
                   focus
                     refine ite_t (eqs_b rfl rfl) ?_
                     repeat' first
                       | refine ite_t (eqs_b rfl rfl) ?_
                       | refine ite_t (eqs_i rfl rfl) ?_
                       | exact rfl
                   simp only [app_cons, app_nil])
                | (refine wp_lt rfl ?_; simp only [app_cons, app_nil])
                | (refine wp_ite rfl (fun hc => ?_) (fun hc => ?_) <;> first | exact absurd hc (by decide) | exact absurd hc (by rw [hwv]; decide) | skip)
              all_goals (refine wp_cont rfl rfl (hQ2 _ ?_); simp_all)
        · intro Q1 hQ1
          have hcS := same_con (e := e) (f := s.w1)
          repeat' first
            | refine wp_chk rfl ?_
            | (refine wp_call rfl hcS rfl ?_; simp only [lv_cons, lv_nil, app_cons, app_nil])
            | (refine wp_lt (not_e (t := true) ?_) ?_
               focus
                 refine ite_t (eqs_b rfl rfl) ?_
                 repeat' first
                   | refine ite_t (eqs_b rfl rfl) ?_
                   | refine ite_t (eqs_i rfl rfl) ?_
                   | exact rfl
               simp only [app_cons, app_nil])
            | (refine wp_lt rfl ?_; simp only [app_cons, app_nil])
            | (refine wp_ite rfl (fun hc => ?_) (fun hc => ?_) <;> first | exact absurd hc (by decide) | exact absurd hc (by rw [hwv]; decide) | skip)
          all_goals (refine wp_cont rfl rfl (hQ1 _ ?_); simp_all [empT, empF])
      · refine wp_lt (d := .b true) rfl ?_
        simp only [lv_cons, lv_nil, app_cons, app_nil]
        refine wp_ite (t := true) rfl (fun _ => ?_) (fun h => by cases h)
        refine wp_jn (fun es => es = [.b (empT e s (2 + 1))]) ?_ ?_
        · rintro es rfl
          simp only [app_cons, app_nil]
          refine wp_jn (fun es => es = [.b false]) ?_ ?_
          · rintro es rfl
            simp only [app_cons, app_nil]
            refine wp_ite (t := false) rfl (fun h => by cases h) (fun _ => ?_)
            refine wp_lt (d := I (2 + 1 : Nat)) rfl ?_
            simp only [lv_cons, lv_nil, app_cons, app_nil]
            exact wp_cont rfl rfl (hQ _ ⟨_, 2 + 1, rfl, by omega, by omega⟩)
          · intro Q2 hQ2
            refine wp_lt (d := .b false) rfl ?_
            simp only [lv_cons, lv_nil, app_cons, app_nil]
            refine wp_ite (t := false) rfl (fun h => by cases h) (fun _ => ?_)
            refine wp_lt (d := .b false) rfl ?_
            simp only [lv_cons, lv_nil, app_cons, app_nil]
            refine wp_ite (t := false) rfl (fun h => by cases h) (fun _ => ?_)
            exact wp_cont rfl rfl (hQ2 _ rfl)
        · intro Q1 hQ1
          have hcS := same_con (e := e) (f := s.w2)
          repeat' first
            | refine wp_chk rfl ?_
            | (refine wp_call rfl hcS rfl ?_; simp only [lv_cons, lv_nil, app_cons, app_nil])
            | (refine wp_lt (not_e (t := true) ?_) ?_
               focus
                 refine ite_t (eqs_b rfl rfl) ?_
                 repeat' first
                   | refine ite_t (eqs_b rfl rfl) ?_
                   | refine ite_t (eqs_i rfl rfl) ?_
                   | exact rfl
               simp only [app_cons, app_nil])
            | (refine wp_lt rfl ?_; simp only [app_cons, app_nil])
            | (refine wp_ite rfl (fun hc => ?_) (fun hc => ?_) <;> first | exact absurd hc (by decide) | exact absurd hc (by rw [hwv]; decide) | skip)
          all_goals (refine wp_cont rfl rfl (hQ1 _ ?_); simp_all [empT, empF])
      · refine wp_lt (d := .b true) rfl ?_
        simp only [lv_cons, lv_nil, app_cons, app_nil]
        refine wp_ite (t := true) rfl (fun _ => ?_) (fun h => by cases h)
        refine wp_jn (fun es => es = [.b (empT e s (3 + 1))]) ?_ ?_
        · rintro es rfl
          simp only [app_cons, app_nil]
          refine wp_jn (fun es => es = [.b false]) ?_ ?_
          · rintro es rfl
            simp only [app_cons, app_nil]
            refine wp_ite (t := false) rfl (fun h => by cases h) (fun _ => ?_)
            refine wp_lt (d := I (3 + 1 : Nat)) rfl ?_
            simp only [lv_cons, lv_nil, app_cons, app_nil]
            exact wp_cont rfl rfl (hQ _ ⟨_, 3 + 1, rfl, by omega, by omega⟩)
          · intro Q2 hQ2
            have hcS := same_con (e := e) (f := s.w3)
            cases hsm : sameF e s.w3 with
            | true =>
              rw [hsm] at hcS
              have hd : dW e s.w3 = En.zero := by unfold dW; rw [if_pos hsm]
              have hwv := same_v hsm
              rw [hd]
              simp only [En.zero]
              repeat' first
                | refine wp_chk rfl ?_
                | (refine wp_call rfl hcS rfl ?_; simp only [lv_cons, lv_nil, app_cons, app_nil])
                | (refine wp_lt (not_e (t := true) ?_) ?_
                   focus
                     refine ite_t (eqs_b rfl rfl) ?_
                     repeat' first
                       | refine ite_t (eqs_b rfl rfl) ?_
                       | refine ite_t (eqs_i rfl rfl) ?_
                       | exact rfl
                   simp only [app_cons, app_nil])
                | (refine wp_lt rfl ?_; simp only [app_cons, app_nil])
                | (refine wp_ite rfl (fun hc => ?_) (fun hc => ?_) <;> first | exact absurd hc (by decide) | exact absurd hc (by rw [hwv]; decide) | skip)
              all_goals (refine wp_cont rfl rfl (hQ2 _ ?_); simp_all)
            | false =>
              rw [hsm] at hcS
              have hd : dW e s.w3 = s.w3 := by unfold dW; rw [if_neg (by simp [hsm])]
              rw [hd]
              repeat' first
                | refine wp_chk rfl ?_
                | (refine wp_call rfl hcS rfl ?_; simp only [lv_cons, lv_nil, app_cons, app_nil])
                | (refine wp_lt (not_e (t := true) ?_) ?_
                   focus
                     refine ite_t (eqs_b rfl rfl) ?_
                     repeat' first
                       | refine ite_t (eqs_b rfl rfl) ?_
                       | refine ite_t (eqs_i rfl rfl) ?_
                       | exact rfl
                   simp only [app_cons, app_nil])
                | (refine wp_lt rfl ?_; simp only [app_cons, app_nil])
                | (refine wp_ite rfl (fun hc => ?_) (fun hc => ?_) <;> first | exact absurd hc (by decide) | exact absurd hc (by rw [hwv]; decide) | skip)
              all_goals (refine wp_cont rfl rfl (hQ2 _ ?_); simp_all)
        · intro Q1 hQ1
          have hcS := same_con (e := e) (f := s.w3)
          repeat' first
            | refine wp_chk rfl ?_
            | (refine wp_call rfl hcS rfl ?_; simp only [lv_cons, lv_nil, app_cons, app_nil])
            | (refine wp_lt (not_e (t := true) ?_) ?_
               focus
                 refine ite_t (eqs_b rfl rfl) ?_
                 repeat' first
                   | refine ite_t (eqs_b rfl rfl) ?_
                   | refine ite_t (eqs_i rfl rfl) ?_
                   | exact rfl
               simp only [app_cons, app_nil])
            | (refine wp_lt rfl ?_; simp only [app_cons, app_nil])
            | (refine wp_ite rfl (fun hc => ?_) (fun hc => ?_) <;> first | exact absurd hc (by decide) | exact absurd hc (by rw [hwv]; decide) | skip)
          all_goals (refine wp_cont rfl rfl (hQ1 _ ?_); simp_all [empT, empF])
      · refine wp_lt (d := .b false) rfl ?_
        simp only [lv_cons, lv_nil, app_cons, app_nil]
        refine wp_ite (t := false) rfl (fun h => by cases h) (fun _ => ?_)
        refine wp_jn (fun es => es = [.b (empF e (s.at 2))]) ?_ ?_
        rotate_left
        · intro Q1 hQ1
          have hcS := same_con (e := e) (f := s.w2)
          repeat' first
            | refine wp_chk rfl ?_
            | (refine wp_call rfl hcS rfl ?_; simp only [lv_cons, lv_nil, app_cons, app_nil])
            | (refine wp_lt (not_e (t := true) ?_) ?_
               focus
                 refine ite_t (eqs_b rfl rfl) ?_
                 repeat' first
                   | refine ite_t (eqs_b rfl rfl) ?_
                   | refine ite_t (eqs_i rfl rfl) ?_
                   | exact rfl
               simp only [app_cons, app_nil])
            | (refine wp_lt rfl ?_; simp only [app_cons, app_nil])
            | (refine wp_ite rfl (fun hc => ?_) (fun hc => ?_) <;> first | exact absurd hc (by decide) | exact absurd hc (by rw [hwv]; decide) | skip)
          all_goals (refine wp_cont rfl rfl (hQ1 _ ?_); simp_all [empF, SetD.at])
        rintro es rfl
        simp only [app_cons, app_nil]
        refine wp_jn (fun es => es = [.b false]) ?_ ?_
        rotate_left
        · intro Q2 hQ2
          clear hcr hfd hp
          have hcS := same_con (e := e) (f := s.w2)
          repeat' first
            | refine wp_chk rfl ?_
            | (refine wp_call rfl hcS rfl ?_; simp only [lv_cons, lv_nil, app_cons, app_nil])
            | (refine wp_lt (not_e (t := true) ?_) ?_
               focus
                 refine ite_t (eqs_b rfl rfl) ?_
                 repeat' first
                   | refine ite_t (eqs_b rfl rfl) ?_
                   | refine ite_t (eqs_i rfl rfl) ?_
                   | exact rfl
               simp only [app_cons, app_nil])
            | (refine wp_lt rfl ?_; simp only [app_cons, app_nil])
            | (refine wp_ite rfl (fun hc => ?_) (fun hc => ?_) <;> first | exact absurd hc (by decide) | exact absurd hc (by rw [hwv]; decide) | skip)
          all_goals
            refine wp_cont rfl rfl (hQ2 _ ?_)
            simp only [decide_eq_true_eq, decide_eq_false_iff_not, ge_iff_le, gt_iff_lt, Int.not_le, Int.not_lt, bne_iff_ne, ne_eq, Decidable.not_not] at * <;>
            first
              | rfl
              | (exfalso; have := hT ⟨by omega, by omega⟩; omega)
              | (rw [hE (by omega) (by assumption)]; rfl)
        rintro es rfl
        simp only [app_cons, app_nil]
        refine wp_ite (t := false) rfl (fun h => by cases h) (fun _ => ?_)
        refine wp_call rfl (refOf_con (n := e.vpn)) rfl ?_
        simp only [lv_cons, lv_nil, app_cons, app_nil]
        refine wp_call rfl hfd rfl ?_
        simp only [lv_cons, lv_nil, app_cons, app_nil]
        refine wp_jn (fun es => es = [.b true]) ?_ ?_
        · rintro es rfl
          simp only [app_cons, app_nil]
          exact wp_return rfl rfl
        · intro Q3 hQ3
          refine wp_ite (t := true) rfl (fun _ => ?_) (fun h => by cases h)
          refine wp_lt (d := .b true) ?_ ?_
          · show some (D.b (decide (fw ≤ 2))) = _
            rw [decide_eq_true (show fw ≤ 2 by omega)]
          simp only [lv_cons, lv_nil, app_cons, app_nil]
          refine wp_ite (t := true) rfl (fun _ => ?_) (fun h => by cases h)
          refine wp_call rfl (victim_con (t := touN s.t 2) (touN_lt ht8 (by omega))).2 rfl ?_
          simp only [lv_cons, lv_nil, app_cons, app_nil]
          have hvl := vicN_lt (t := touN s.t 2) (touN_lt ht8 (by omega))
          refine wp_lt (i_quo (b := 2) rfl rfl (by omega) (by omega)) ?_
          simp only [lv_cons, lv_nil, app_cons, app_nil]
          refine wp_lt (i_quo (a := 2) (b := 2) rfl rfl (by omega) (by omega)) ?_
          simp only [lv_cons, lv_nil, app_cons, app_nil]
          refine wp_lt (d := .b true) ?_ ?_
          · have hva := vic_away (t := s.t) (k := 2) ht8 (by omega)
            show some (D.b (((vicN (touN s.t 2) / 2 : Nat) : Int) != ((2 / 2 : Nat) : Int))) = _
            congr 2
            rw [bne_iff_ne]
            omega
          simp only [lv_cons, lv_nil, app_cons, app_nil]
          exact wp_cont rfl rfl (hQ3 _ rfl)
  · rw [putW_3] at hp hcr hfd
    refine wp_call rfl hp rfl ?_
    simp only [lv_cons, lv_nil, SetD.ds, En.ds, app_cons, app_nil]
    refine wp_jn (fun es => es = [.b false]) ?_ ?_
    rotate_left
    · intro Q hQ
      refine wp_lt (d := .b false) rfl ?_
      simp only [lv_cons, lv_nil, app_cons, app_nil]
      refine wp_ite (t := false) rfl (fun h => by cases h) (fun _ => ?_)
      refine wp_lt (d := .b false) rfl ?_
      simp only [lv_cons, lv_nil, app_cons, app_nil]
      refine wp_ite (t := false) rfl (fun h => by cases h) (fun _ => ?_)
      refine wp_chk rfl ?_
      refine wp_lt (not_e (t := true) (by
        repeat' first
          | refine ite_t (eqs_b rfl rfl) ?_
          | refine ite_t (eqs_i rfl rfl) ?_
          | exact rfl)) ?_
      simp only [lv_cons, lv_nil, app_cons, app_nil]
      refine wp_ite (t := false) rfl (fun h => by cases h) (fun _ => ?_)
      refine wp_call rfl hcr rfl ?_
      simp only [lv_cons, lv_nil, app_cons, app_nil]
      refine wp_lt (d := .b false) rfl ?_
      simp only [lv_cons, lv_nil, app_cons, app_nil]
      refine wp_ite (t := false) rfl (fun h => by cases h) (fun _ => ?_)
      refine wp_call rfl (refUnlike_con (s := s)) rfl ?_
      simp only [lv_cons, lv_nil, app_cons, app_nil]
      refine wp_ite rfl (fun hu => ?_) (fun hu => ?_)
      · have hux := putW_unlike (e := e) (k := 3) hu (by omega)
        have hcu := refUnlike_con (s := putW e s 3)
        rw [hux, putW_3] at hcu
        refine wp_call rfl hcu rfl ?_
        simp only [lv_cons, lv_nil, app_cons, app_nil]
        refine wp_lt (d := .b false) rfl ?_
        simp only [lv_cons, lv_nil, app_cons, app_nil]
        exact wp_cont rfl rfl (hQ _ rfl)
      · exact wp_cont rfl rfl (hQ _ rfl)
    · rintro es rfl
      simp only [app_cons, app_nil]
      refine wp_ite (t := false) rfl (fun h => by cases h) (fun _ => ?_)
      refine wp_rounds (fun m ds => ∃ (b : Bool) (n : Nat), ds = [.b b, .b (empT e s n), I n] ∧ n + m = 5 ∧ n ≤ 4) 5 rfl ⟨false, 0, rfl, by omega, by omega⟩ ?_
        (fun es hes => by obtain ⟨_, n, _, h1, h2⟩ := hes; omega)
      rintro m es Q ⟨b, n, rfl, hn, hn'⟩ hQ
      simp only [app_cons, app_nil]
      have hcase : n = 0 ∨ n = 1 ∨ n = 2 ∨ n = 3 ∨ n = 4 := by omega
      rcases hcase with rfl | rfl | rfl | rfl | rfl
      · refine wp_lt (d := .b true) rfl ?_
        simp only [lv_cons, lv_nil, app_cons, app_nil]
        refine wp_ite (t := true) rfl (fun _ => ?_) (fun h => by cases h)
        refine wp_jn (fun es => es = [.b (empT e s (0 + 1))]) ?_ ?_
        · rintro es rfl
          simp only [app_cons, app_nil]
          refine wp_jn (fun es => es = [.b false]) ?_ ?_
          · rintro es rfl
            simp only [app_cons, app_nil]
            refine wp_ite (t := false) rfl (fun h => by cases h) (fun _ => ?_)
            refine wp_lt (d := I (0 + 1 : Nat)) rfl ?_
            simp only [lv_cons, lv_nil, app_cons, app_nil]
            exact wp_cont rfl rfl (hQ _ ⟨_, 0 + 1, rfl, by omega, by omega⟩)
          · intro Q2 hQ2
            have hcS := same_con (e := e) (f := s.w0)
            cases hsm : sameF e s.w0 with
            | true =>
              rw [hsm] at hcS
              have hd : dW e s.w0 = En.zero := by unfold dW; rw [if_pos hsm]
              have hwv := same_v hsm
              rw [hd]
              simp only [En.zero]
              repeat' first
                | refine wp_chk rfl ?_
                | (refine wp_call rfl hcS rfl ?_; simp only [lv_cons, lv_nil, app_cons, app_nil])
                | (refine wp_lt (not_e (t := true) ?_) ?_
                   focus
                     refine ite_t (eqs_b rfl rfl) ?_
                     repeat' first
                       | refine ite_t (eqs_b rfl rfl) ?_
                       | refine ite_t (eqs_i rfl rfl) ?_
                       | exact rfl
                   simp only [app_cons, app_nil])
                | (refine wp_lt rfl ?_; simp only [app_cons, app_nil])
                | (refine wp_ite rfl (fun hc => ?_) (fun hc => ?_) <;> first | exact absurd hc (by decide) | exact absurd hc (by rw [hwv]; decide) | skip)
              all_goals (refine wp_cont rfl rfl (hQ2 _ ?_); simp_all)
            | false =>
              rw [hsm] at hcS
              have hd : dW e s.w0 = s.w0 := by unfold dW; rw [if_neg (by simp [hsm])]
              rw [hd]
              repeat' first
                | refine wp_chk rfl ?_
                | (refine wp_call rfl hcS rfl ?_; simp only [lv_cons, lv_nil, app_cons, app_nil])
                | (refine wp_lt (not_e (t := true) ?_) ?_
                   focus
                     refine ite_t (eqs_b rfl rfl) ?_
                     repeat' first
                       | refine ite_t (eqs_b rfl rfl) ?_
                       | refine ite_t (eqs_i rfl rfl) ?_
                       | exact rfl
                   simp only [app_cons, app_nil])
                | (refine wp_lt rfl ?_; simp only [app_cons, app_nil])
                | (refine wp_ite rfl (fun hc => ?_) (fun hc => ?_) <;> first | exact absurd hc (by decide) | exact absurd hc (by rw [hwv]; decide) | skip)
              all_goals (refine wp_cont rfl rfl (hQ2 _ ?_); simp_all)
        · intro Q1 hQ1
          have hcS := same_con (e := e) (f := s.w0)
          repeat' first
            | refine wp_chk rfl ?_
            | (refine wp_call rfl hcS rfl ?_; simp only [lv_cons, lv_nil, app_cons, app_nil])
            | (refine wp_lt (not_e (t := true) ?_) ?_
               focus
                 refine ite_t (eqs_b rfl rfl) ?_
                 repeat' first
                   | refine ite_t (eqs_b rfl rfl) ?_
                   | refine ite_t (eqs_i rfl rfl) ?_
                   | exact rfl
               simp only [app_cons, app_nil])
            | (refine wp_lt rfl ?_; simp only [app_cons, app_nil])
            | (refine wp_ite rfl (fun hc => ?_) (fun hc => ?_) <;> first | exact absurd hc (by decide) | exact absurd hc (by rw [hwv]; decide) | skip)
          all_goals (refine wp_cont rfl rfl (hQ1 _ ?_); simp_all [empT, empF])
      · refine wp_lt (d := .b true) rfl ?_
        simp only [lv_cons, lv_nil, app_cons, app_nil]
        refine wp_ite (t := true) rfl (fun _ => ?_) (fun h => by cases h)
        refine wp_jn (fun es => es = [.b (empT e s (1 + 1))]) ?_ ?_
        · rintro es rfl
          simp only [app_cons, app_nil]
          refine wp_jn (fun es => es = [.b false]) ?_ ?_
          · rintro es rfl
            simp only [app_cons, app_nil]
            refine wp_ite (t := false) rfl (fun h => by cases h) (fun _ => ?_)
            refine wp_lt (d := I (1 + 1 : Nat)) rfl ?_
            simp only [lv_cons, lv_nil, app_cons, app_nil]
            exact wp_cont rfl rfl (hQ _ ⟨_, 1 + 1, rfl, by omega, by omega⟩)
          · intro Q2 hQ2
            have hcS := same_con (e := e) (f := s.w1)
            cases hsm : sameF e s.w1 with
            | true =>
              rw [hsm] at hcS
              have hd : dW e s.w1 = En.zero := by unfold dW; rw [if_pos hsm]
              have hwv := same_v hsm
              rw [hd]
              simp only [En.zero]
              repeat' first
                | refine wp_chk rfl ?_
                | (refine wp_call rfl hcS rfl ?_; simp only [lv_cons, lv_nil, app_cons, app_nil])
                | (refine wp_lt (not_e (t := true) ?_) ?_
                   focus
                     refine ite_t (eqs_b rfl rfl) ?_
                     repeat' first
                       | refine ite_t (eqs_b rfl rfl) ?_
                       | refine ite_t (eqs_i rfl rfl) ?_
                       | exact rfl
                   simp only [app_cons, app_nil])
                | (refine wp_lt rfl ?_; simp only [app_cons, app_nil])
                | (refine wp_ite rfl (fun hc => ?_) (fun hc => ?_) <;> first | exact absurd hc (by decide) | exact absurd hc (by rw [hwv]; decide) | skip)
              all_goals (refine wp_cont rfl rfl (hQ2 _ ?_); simp_all)
            | false =>
              rw [hsm] at hcS
              have hd : dW e s.w1 = s.w1 := by unfold dW; rw [if_neg (by simp [hsm])]
              rw [hd]
              repeat' first
                | refine wp_chk rfl ?_
                | (refine wp_call rfl hcS rfl ?_; simp only [lv_cons, lv_nil, app_cons, app_nil])
                | (refine wp_lt (not_e (t := true) ?_) ?_
                   focus
                     refine ite_t (eqs_b rfl rfl) ?_
                     repeat' first
                       | refine ite_t (eqs_b rfl rfl) ?_
                       | refine ite_t (eqs_i rfl rfl) ?_
                       | exact rfl
                   simp only [app_cons, app_nil])
                | (refine wp_lt rfl ?_; simp only [app_cons, app_nil])
                | (refine wp_ite rfl (fun hc => ?_) (fun hc => ?_) <;> first | exact absurd hc (by decide) | exact absurd hc (by rw [hwv]; decide) | skip)
              all_goals (refine wp_cont rfl rfl (hQ2 _ ?_); simp_all)
        · intro Q1 hQ1
          have hcS := same_con (e := e) (f := s.w1)
          repeat' first
            | refine wp_chk rfl ?_
            | (refine wp_call rfl hcS rfl ?_; simp only [lv_cons, lv_nil, app_cons, app_nil])
            | (refine wp_lt (not_e (t := true) ?_) ?_
               focus
                 refine ite_t (eqs_b rfl rfl) ?_
                 repeat' first
                   | refine ite_t (eqs_b rfl rfl) ?_
                   | refine ite_t (eqs_i rfl rfl) ?_
                   | exact rfl
               simp only [app_cons, app_nil])
            | (refine wp_lt rfl ?_; simp only [app_cons, app_nil])
            | (refine wp_ite rfl (fun hc => ?_) (fun hc => ?_) <;> first | exact absurd hc (by decide) | exact absurd hc (by rw [hwv]; decide) | skip)
          all_goals (refine wp_cont rfl rfl (hQ1 _ ?_); simp_all [empT, empF])
      · refine wp_lt (d := .b true) rfl ?_
        simp only [lv_cons, lv_nil, app_cons, app_nil]
        refine wp_ite (t := true) rfl (fun _ => ?_) (fun h => by cases h)
        refine wp_jn (fun es => es = [.b (empT e s (2 + 1))]) ?_ ?_
        · rintro es rfl
          simp only [app_cons, app_nil]
          refine wp_jn (fun es => es = [.b false]) ?_ ?_
          · rintro es rfl
            simp only [app_cons, app_nil]
            refine wp_ite (t := false) rfl (fun h => by cases h) (fun _ => ?_)
            refine wp_lt (d := I (2 + 1 : Nat)) rfl ?_
            simp only [lv_cons, lv_nil, app_cons, app_nil]
            exact wp_cont rfl rfl (hQ _ ⟨_, 2 + 1, rfl, by omega, by omega⟩)
          · intro Q2 hQ2
            have hcS := same_con (e := e) (f := s.w2)
            cases hsm : sameF e s.w2 with
            | true =>
              rw [hsm] at hcS
              have hd : dW e s.w2 = En.zero := by unfold dW; rw [if_pos hsm]
              have hwv := same_v hsm
              rw [hd]
              simp only [En.zero]
              repeat' first
                | refine wp_chk rfl ?_
                | (refine wp_call rfl hcS rfl ?_; simp only [lv_cons, lv_nil, app_cons, app_nil])
                | (refine wp_lt (not_e (t := true) ?_) ?_
                   focus
                     refine ite_t (eqs_b rfl rfl) ?_
                     repeat' first
                       | refine ite_t (eqs_b rfl rfl) ?_
                       | refine ite_t (eqs_i rfl rfl) ?_
                       | exact rfl
                   simp only [app_cons, app_nil])
                | (refine wp_lt rfl ?_; simp only [app_cons, app_nil])
                | (refine wp_ite rfl (fun hc => ?_) (fun hc => ?_) <;> first | exact absurd hc (by decide) | exact absurd hc (by rw [hwv]; decide) | skip)
              all_goals (refine wp_cont rfl rfl (hQ2 _ ?_); simp_all)
            | false =>
              rw [hsm] at hcS
              have hd : dW e s.w2 = s.w2 := by unfold dW; rw [if_neg (by simp [hsm])]
              rw [hd]
              repeat' first
                | refine wp_chk rfl ?_
                | (refine wp_call rfl hcS rfl ?_; simp only [lv_cons, lv_nil, app_cons, app_nil])
                | (refine wp_lt (not_e (t := true) ?_) ?_
                   focus
                     refine ite_t (eqs_b rfl rfl) ?_
                     repeat' first
                       | refine ite_t (eqs_b rfl rfl) ?_
                       | refine ite_t (eqs_i rfl rfl) ?_
                       | exact rfl
                   simp only [app_cons, app_nil])
                | (refine wp_lt rfl ?_; simp only [app_cons, app_nil])
                | (refine wp_ite rfl (fun hc => ?_) (fun hc => ?_) <;> first | exact absurd hc (by decide) | exact absurd hc (by rw [hwv]; decide) | skip)
              all_goals (refine wp_cont rfl rfl (hQ2 _ ?_); simp_all)
        · intro Q1 hQ1
          have hcS := same_con (e := e) (f := s.w2)
          repeat' first
            | refine wp_chk rfl ?_
            | (refine wp_call rfl hcS rfl ?_; simp only [lv_cons, lv_nil, app_cons, app_nil])
            | (refine wp_lt (not_e (t := true) ?_) ?_
               focus
                 refine ite_t (eqs_b rfl rfl) ?_
                 repeat' first
                   | refine ite_t (eqs_b rfl rfl) ?_
                   | refine ite_t (eqs_i rfl rfl) ?_
                   | exact rfl
               simp only [app_cons, app_nil])
            | (refine wp_lt rfl ?_; simp only [app_cons, app_nil])
            | (refine wp_ite rfl (fun hc => ?_) (fun hc => ?_) <;> first | exact absurd hc (by decide) | exact absurd hc (by rw [hwv]; decide) | skip)
          all_goals (refine wp_cont rfl rfl (hQ1 _ ?_); simp_all [empT, empF])
      · refine wp_lt (d := .b true) rfl ?_
        simp only [lv_cons, lv_nil, app_cons, app_nil]
        refine wp_ite (t := true) rfl (fun _ => ?_) (fun h => by cases h)
        refine wp_jn (fun es => es = [.b (empT e s (3 + 1))]) ?_ ?_
        · rintro es rfl
          simp only [app_cons, app_nil]
          refine wp_jn (fun es => es = [.b false]) ?_ ?_
          · rintro es rfl
            simp only [app_cons, app_nil]
            refine wp_ite (t := false) rfl (fun h => by cases h) (fun _ => ?_)
            refine wp_lt (d := I (3 + 1 : Nat)) rfl ?_
            simp only [lv_cons, lv_nil, app_cons, app_nil]
            exact wp_cont rfl rfl (hQ _ ⟨_, 3 + 1, rfl, by omega, by omega⟩)
          · intro Q2 hQ2
            refine wp_lt (d := .b false) rfl ?_
            simp only [lv_cons, lv_nil, app_cons, app_nil]
            refine wp_ite (t := false) rfl (fun h => by cases h) (fun _ => ?_)
            refine wp_lt (d := .b false) rfl ?_
            simp only [lv_cons, lv_nil, app_cons, app_nil]
            refine wp_ite (t := false) rfl (fun h => by cases h) (fun _ => ?_)
            exact wp_cont rfl rfl (hQ2 _ rfl)
        · intro Q1 hQ1
          have hcS := same_con (e := e) (f := s.w3)
          repeat' first
            | refine wp_chk rfl ?_
            | (refine wp_call rfl hcS rfl ?_; simp only [lv_cons, lv_nil, app_cons, app_nil])
            | (refine wp_lt (not_e (t := true) ?_) ?_
               focus
                 refine ite_t (eqs_b rfl rfl) ?_
                 repeat' first
                   | refine ite_t (eqs_b rfl rfl) ?_
                   | refine ite_t (eqs_i rfl rfl) ?_
                   | exact rfl
               simp only [app_cons, app_nil])
            | (refine wp_lt rfl ?_; simp only [app_cons, app_nil])
            | (refine wp_ite rfl (fun hc => ?_) (fun hc => ?_) <;> first | exact absurd hc (by decide) | exact absurd hc (by rw [hwv]; decide) | skip)
          all_goals (refine wp_cont rfl rfl (hQ1 _ ?_); simp_all [empT, empF])
      · refine wp_lt (d := .b false) rfl ?_
        simp only [lv_cons, lv_nil, app_cons, app_nil]
        refine wp_ite (t := false) rfl (fun h => by cases h) (fun _ => ?_)
        refine wp_jn (fun es => es = [.b (empF e (s.at 3))]) ?_ ?_
        rotate_left
        · intro Q1 hQ1
          have hcS := same_con (e := e) (f := s.w3)
          repeat' first
            | refine wp_chk rfl ?_
            | (refine wp_call rfl hcS rfl ?_; simp only [lv_cons, lv_nil, app_cons, app_nil])
            | (refine wp_lt (not_e (t := true) ?_) ?_
               focus
                 refine ite_t (eqs_b rfl rfl) ?_
                 repeat' first
                   | refine ite_t (eqs_b rfl rfl) ?_
                   | refine ite_t (eqs_i rfl rfl) ?_
                   | exact rfl
               simp only [app_cons, app_nil])
            | (refine wp_lt rfl ?_; simp only [app_cons, app_nil])
            | (refine wp_ite rfl (fun hc => ?_) (fun hc => ?_) <;> first | exact absurd hc (by decide) | exact absurd hc (by rw [hwv]; decide) | skip)
          all_goals (refine wp_cont rfl rfl (hQ1 _ ?_); simp_all [empF, SetD.at])
        rintro es rfl
        simp only [app_cons, app_nil]
        refine wp_jn (fun es => es = [.b false]) ?_ ?_
        rotate_left
        · intro Q2 hQ2
          clear hcr hfd hp
          have hcS := same_con (e := e) (f := s.w3)
          repeat' first
            | refine wp_chk rfl ?_
            | (refine wp_call rfl hcS rfl ?_; simp only [lv_cons, lv_nil, app_cons, app_nil])
            | (refine wp_lt (not_e (t := true) ?_) ?_
               focus
                 refine ite_t (eqs_b rfl rfl) ?_
                 repeat' first
                   | refine ite_t (eqs_b rfl rfl) ?_
                   | refine ite_t (eqs_i rfl rfl) ?_
                   | exact rfl
               simp only [app_cons, app_nil])
            | (refine wp_lt rfl ?_; simp only [app_cons, app_nil])
            | (refine wp_ite rfl (fun hc => ?_) (fun hc => ?_) <;> first | exact absurd hc (by decide) | exact absurd hc (by rw [hwv]; decide) | skip)
          all_goals
            refine wp_cont rfl rfl (hQ2 _ ?_)
            simp only [decide_eq_true_eq, decide_eq_false_iff_not, ge_iff_le, gt_iff_lt, Int.not_le, Int.not_lt, bne_iff_ne, ne_eq, Decidable.not_not] at * <;>
            first
              | rfl
              | (exfalso; have := hT ⟨by omega, by omega⟩; omega)
              | (rw [hE (by omega) (by assumption)]; rfl)
        rintro es rfl
        simp only [app_cons, app_nil]
        refine wp_ite (t := false) rfl (fun h => by cases h) (fun _ => ?_)
        refine wp_call rfl (refOf_con (n := e.vpn)) rfl ?_
        simp only [lv_cons, lv_nil, app_cons, app_nil]
        refine wp_call rfl hfd rfl ?_
        simp only [lv_cons, lv_nil, app_cons, app_nil]
        refine wp_jn (fun es => es = [.b true]) ?_ ?_
        · rintro es rfl
          simp only [app_cons, app_nil]
          exact wp_return rfl rfl
        · intro Q3 hQ3
          refine wp_ite (t := true) rfl (fun _ => ?_) (fun h => by cases h)
          refine wp_lt (d := .b true) ?_ ?_
          · show some (D.b (decide (fw ≤ 3))) = _
            rw [decide_eq_true (show fw ≤ 3 by omega)]
          simp only [lv_cons, lv_nil, app_cons, app_nil]
          refine wp_ite (t := true) rfl (fun _ => ?_) (fun h => by cases h)
          refine wp_call rfl (victim_con (t := touN s.t 3) (touN_lt ht8 (by omega))).2 rfl ?_
          simp only [lv_cons, lv_nil, app_cons, app_nil]
          have hvl := vicN_lt (t := touN s.t 3) (touN_lt ht8 (by omega))
          refine wp_lt (i_quo (b := 2) rfl rfl (by omega) (by omega)) ?_
          simp only [lv_cons, lv_nil, app_cons, app_nil]
          refine wp_lt (i_quo (a := 3) (b := 2) rfl rfl (by omega) (by omega)) ?_
          simp only [lv_cons, lv_nil, app_cons, app_nil]
          refine wp_lt (d := .b true) ?_ ?_
          · have hva := vic_away (t := s.t) (k := 3) ht8 (by omega)
            show some (D.b (((vicN (touN s.t 3) / 2 : Nat) : Int) != ((3 / 2 : Nat) : Int))) = _
            congr 2
            rw [bne_iff_ne]
            omega
          simp only [lv_cons, lv_nil, app_cons, app_nil]
          exact wp_cont rfl rfl (hQ3 _ rfl)
end Go.Proofs.YtebcdcdcefhdfaaDoor.Sx
