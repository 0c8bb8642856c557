/-
  Regions whose operations run in any order that their edges leave open: what an operation comes to hangs on its operands alone, and, but for loads, not on memory.
-/
import Derived.Test.YtffahdloddkcfaaSimpleb
namespace Go.Proofs.Ytffahdloddkcfaa.Sx
open Go
set_option linter.unnecessarySimpa false
set_option linter.unusedSimpArgs false
set_option linter.unusedVariables false

theorem map_opd_congr {fr fr' : List S} : ∀ {l : List Operand}, (∀ x ∈ l, opd fr x = opd fr' x) → l.map (opd fr) = l.map (opd fr')
  | [], _ => rfl
  | x :: l, h => by
    simp only [List.map_cons]
    rw [h x (List.mem_cons_self ..), map_opd_congr fun y hy => h y (List.mem_cons_of_mem _ hy)]

theorem parts_congr {fr fr' : List S} {ps : List (Nat × Operand)} (h : ∀ x ∈ ps.map (·.2), opd fr x = opd fr' x) : (ps.map fun q => (q.1, opd fr q.2)) = ps.map fun q => (q.1, opd fr' q.2) :=
  List.map_congr_left fun q hq => by rw [h q.2 (List.mem_map.2 ⟨q, hq, rfl⟩)]

theorem arith_congr {P : Program} {fr fr' : List S} {op : Op} (hx : ∀ x ∈ op.operands.toList, opd fr x = opd fr' x) : arith P fr op = arith P fr' op := by
  cases op with
  | binOp o t a b t' =>
    have h1 := hx a (by simp [Op.operands])
    have h2 := hx b (by simp [Op.operands])
    simp only [arith, h1, h2]
  | unOp o t a =>
    have h1 := hx a (by simp [Op.operands])
    simp only [arith, h1]
  | convert s d a =>
    have h1 := hx a (by simp [Op.operands])
    simp only [arith, h1]
  | call c =>
    obtain ⟨callee, args, argTypes⟩ := c
    cases callee with
    | builtin b =>
      cases b <;> try rfl
      · unfold arith
        dsimp only
        cases hl : args.toList with
        | nil => rfl
        | cons a r =>
          cases r with
          | cons _ _ => rfl
          | nil =>
            have h1 := hx a (by simp [Op.operands, Call.operands, hl])
            cases argTypes[0]? with
            | none => rfl
            | some t => simp only [h1]
      · unfold arith
        dsimp only
        cases hl : args.toList with
        | nil => rfl
        | cons a r =>
          cases r with
          | nil => rfl
          | cons b r =>
            cases r with
            | cons _ _ => rfl
            | nil =>
              have h1 := hx a (by simp [Op.operands, Call.operands, hl])
              have h2 := hx b (by simp [Op.operands, Call.operands, hl])
              simp only [h1, h2]
      · unfold arith
        dsimp only
        cases hl : args.toList with
        | nil => rfl
        | cons a r =>
          cases r with
          | nil => rfl
          | cons b r =>
            cases r with
            | cons _ _ => rfl
            | nil =>
              have h1 := hx a (by simp [Op.operands, Call.operands, hl])
              have h2 := hx b (by simp [Op.operands, Call.operands, hl])
              simp only [h1, h2]
    | _ => rfl
  | _ => rfl

theorem simple_congr {P : Program} {G : Glo} {fr fr' : List S} {h : Heap} {op : Op} (hx : ∀ x ∈ op.operands.toList, opd fr x = opd fr' x) : simple P G fr h op = simple P G fr' h op := by
  cases op with
  | move a => have h1 := hx a (by simp [Op.operands]); simp only [simple, h1]
  | assign a => have h1 := hx a (by simp [Op.operands]); simp only [simple, h1]
  | pick q a b =>
    have h1 := hx q (by simp [Op.operands])
    have h2 := hx a (by simp [Op.operands])
    have h3 := hx b (by simp [Op.operands])
    simp only [simple, h1, h2, h3]
  | box t a => have h1 := hx a (by simp [Op.operands]); simp only [simple, h1]
  | build t ps =>
    have h1 := parts_congr (fr := fr) (fr' := fr') (ps := ps.toList) (fun x h => hx x (by simpa [Op.operands] using h))
    simp only [simple, h1]
  | buildSlice t n ps =>
    have h1 := parts_congr (fr := fr) (fr' := fr') (ps := ps.toList) (fun x h => hx x (by simpa [Op.operands] using h))
    simp only [simple, h1]
  | load t a => have h1 := hx a (by simp [Op.operands]); simp only [simple, h1]
  | store t a b =>
    have h1 := hx a (by simp [Op.operands])
    have h2 := hx b (by simp [Op.operands])
    simp only [simple, h1, h2]
  | nilCheck a => have h1 := hx a (by simp [Op.operands]); simp only [simple, h1]
  | makeFunc f first caps =>
    cases f with
    | func f =>
      have h1 : ∀ c ∈ caps.toList, opd fr c = opd fr' c := fun c hc => hx c (by simp [Op.operands]; exact .inr (by simpa using hc))
      unfold simple
      dsimp only
      congr 1
      congr 1
      congr 1
      exact List.map_congr_left fun c hc => by rw [h1 c hc]
    | _ => rfl
  | fieldAddr s a k => have h1 := hx a (by simp [Op.operands]); simp only [simple, h1]
  | field s a k => have h1 := hx a (by simp [Op.operands]); simp only [simple, h1]
  | indexAddr t a i =>
    have h1 := hx a (by simp [Op.operands])
    have h2 := hx i (by simp [Op.operands])
    simp only [simple, h1, h2]
  | index t a i =>
    have h1 := hx a (by simp [Op.operands])
    have h2 := hx i (by simp [Op.operands])
    simp only [simple, h1, h2]
  | extract a k => have h1 := hx a (by simp [Op.operands]); simp only [simple, h1]
  | slice t a l hi m =>
    cases m with
    | some _ => cases l <;> cases hi <;> rfl
    | none =>
      have h1 := hx a (by simp [Op.operands])
      cases l with
      | none =>
        cases hi with
        | none => simp only [simple, h1]
        | some y =>
          have h2 := hx y (by simp [Op.operands])
          simp only [simple, h1, h2]
      | some z =>
        have h3 := hx z (by simp [Op.operands])
        cases hi with
        | none => simp only [simple, h1, h3]
        | some y =>
          have h2 := hx y (by simp [Op.operands])
          simp only [simple, h1, h2, h3]
  | makeSlice t a b =>
    have h1 := hx a (by simp [Op.operands])
    have h2 := hx b (by simp [Op.operands])
    simp only [simple, h1, h2]
  | call c =>
    obtain ⟨callee, args, argTypes⟩ := c
    cases callee with
    | builtin b =>
      cases b <;> try rfl
      unfold simple
      dsimp only
      cases hl : args.toList with
      | nil => rfl
      | cons a r =>
        cases r with
        | cons _ _ => rfl
        | nil =>
          have h1 := hx a (by simp [Op.operands, Call.operands, hl])
          cases argTypes[0]? with
          | none => rfl
          | some t => simp only [h1]
    | _ => rfl
  | _ => rfl

/-- what neither looks at memory nor turns it -/
def isA (op : Op) : Bool :=
  match op with
  | .alloc .. | .box .. | .makeSlice .. | .buildSlice .. | .load .. | .store .. => false
  | _ => true

theorem simple_A {P : Program} {G : Glo} {fr : List S} {op : Op} (ha : isA op = true) (h : Heap) : simple P G fr h op = (simple P G fr [] op).map fun o => (o.1, o.2.1, h) := by
  cases op with
  | alloc => cases ha
  | box => cases ha
  | makeSlice => cases ha
  | buildSlice => cases ha
  | load => cases ha
  | store => cases ha
  | move a => rfl
  | assign a => rfl
  | pick q a b => unfold simple; dsimp only; (repeat' split) <;> simp_all
  | build t ps => unfold simple; dsimp only; (repeat' split) <;> simp_all
  | nilCheck a => unfold simple; dsimp only; (repeat' split) <;> simp_all
  | makeFunc f first caps =>
    cases f <;> try rfl
    unfold simple; dsimp only; (repeat' split) <;> simp_all
  | fieldAddr s a k => unfold simple; dsimp only; (repeat' split) <;> simp_all
  | field s a k => unfold simple; dsimp only; (repeat' split) <;> simp_all
  | indexAddr t a i => unfold simple; dsimp only; (repeat' split) <;> simp_all
  | index t a i => unfold simple; dsimp only; (repeat' split) <;> simp_all
  | extract a k => unfold simple; dsimp only; (repeat' split) <;> simp_all
  | slice t a l hi m =>
    cases l <;> cases hi <;> cases m <;> first | rfl | (unfold simple; dsimp only; (repeat' split) <;> simp_all)
  | call c =>
    obtain ⟨callee, args, argTypes⟩ := c
    cases callee with
    | builtin b =>
      cases b <;> try rfl
      unfold simple; dsimp only; (repeat' split) <;> simp_all
    | _ => rfl
  | _ => rfl

theorem leavesAt_mono {G : Glo} {h h' : Heap} (hp : h <+: h') {r : BR} {ls : List SL} (hl : leavesAt G h r = some ls) : leavesAt G h' r = some ls := by
  cases r with
  | glo g => exact hl
  | loc n =>
    simp only [leavesAt] at hl ⊢
    split at hl
    · rename_i b hb
      rw [pre_get hp hb]
      exact hl
    · cases hl

theorem loadLs_mono {G : Glo} {h h' : Heap} (hp : h <+: h') {m : Nat} {l : SL} {ls : List SL} (hl : loadLs G h m l = some ls) : loadLs G h' m l = some ls := by
  cases l with
  | p r off =>
    simp only [loadLs] at hl ⊢
    split at hl
    · rename_i lv hlv
      rw [leavesAt_mono hp hlv]
      exact hl
    · cases hl
  | dyn r base sz n i j =>
    simp only [loadLs] at hl ⊢
    split at hl
    · rename_i lv hlv
      rw [leavesAt_mono hp hlv]
      exact hl
    · cases hl
  | elt t i n j => exact hl
  | x => exact hl
  | e t => exact hl
  | sc r b s n => exact hl
  | g k => exact hl
  | ge k i sz j => exact hl
  | gs k sz lo => exact hl
  | clo f c => exact hl

theorem simple_load_mono {P : Program} {G : Glo} {fr : List S} {h h' h1 : Heap} {t : TypeId} {a : Operand} {cs : List Ex} {s : S} (hp : h <+: h') (hs : simple P G fr h (.load t a) = some (cs, s, h1)) :
    h1 = h ∧ simple P G fr h' (.load t a) = some (cs, s, h') := by
  simp only [simple] at hs ⊢
  split at hs
  · split at hs
    · rename_i ls hls
      simp only [Option.some.injEq, Prod.mk.injEq] at hs
      obtain ⟨rfl, rfl, rfl⟩ := hs
      rw [loadLs_mono hp hls]
      exact ⟨rfl, rfl⟩
    · cases hs
  · split at hs
    · rename_i ls hls
      simp only [Option.some.injEq, Prod.mk.injEq] at hs
      obtain ⟨rfl, rfl, rfl⟩ := hs
      rw [loadLs_mono hp hls]
      exact ⟨rfl, rfl⟩
    · cases hs
  · cases hs

/-- A quiet operation at a heap comes to the same at a greater one. -/
theorem simple_pad {P : Program} {G : Glo} {fr : List S} {h h' h1 : Heap} {op : Op} {cs : List Ex} {s : S} (hq : isA op = true ∨ ∃ t a, op = .load t a) (hp : h <+: h') (hs : simple P G fr h op = some (cs, s, h1)) :
    h1 = h ∧ simple P G fr h' op = some (cs, s, h') := by
  rcases hq with ha | ⟨t, a, rfl⟩
  · rw [simple_A ha] at hs ⊢
    obtain ⟨o, ho, he⟩ := Option.map_eq_some_iff.1 hs
    simp only [Prod.mk.injEq] at he
    obtain ⟨rfl, rfl, rfl⟩ := he
    exact ⟨rfl, by rw [ho]; rfl⟩
  · exact simple_load_mono hp hs

/-- What looks at no memory comes to the same at any heap. -/
theorem simple_any {P : Program} {G : Glo} {fr : List S} {h h1 : Heap} {op : Op} {cs : List Ex} {s : S} (ha : isA op = true) (hs : simple P G fr h op = some (cs, s, h1)) (h' : Heap) :
    h1 = h ∧ simple P G fr h' op = some (cs, s, h') := by
  rw [simple_A ha] at hs ⊢
  obtain ⟨o, ho, he⟩ := Option.map_eq_some_iff.1 hs
  simp only [Prod.mk.injEq] at he
  obtain ⟨rfl, rfl, rfl⟩ := he
  exact ⟨rfl, by rw [ho]; rfl⟩

/-- What makes a block adds it at the heap's end. -/
theorem simple_al {P : Program} {G : Glo} {fr : List S} {h h1 : Heap} {op : Op} {cs : List Ex} {s : S} (ha : isA op = false) (hl : ∀ t a, op ≠ .load t a) (hst : ∀ t a b, op ≠ .store t a b) (hs : simple P G fr h op = some (cs, s, h1)) :
    ∃ ls, h1 = h ++ [{ ro := false, ls := ls }] := by
  cases op with
  | alloc t => simp only [simple] at hs; split at hs <;> simp_all <;> exact ⟨_, hs.2.2.symm⟩
  | box t a => simp only [simple] at hs; split at hs <;> simp_all <;> exact ⟨_, hs.2.2.symm⟩
  | makeSlice t a b => simp only [simple] at hs; (repeat' split at hs) <;> simp_all <;> exact ⟨_, hs.2.2.symm⟩
  | buildSlice t n ps => simp only [simple] at hs; (repeat' split at hs) <;> simp_all <;> exact ⟨_, hs.2.2.symm⟩
  | load t a => exact absurd rfl (hl t a)
  | store t a b => exact absurd rfl (hst t a b)
  | _ => cases ha

end Go.Proofs.Ytffahdloddkcfaa.Sx
