/- A statement whose order Go leaves open, and in which functions are called that make memory: walked once. Operations that only read yield one value in every world that extends the one in which the statement begins; an operation that makes memory is carried out where no other may come up. No program stands in it. -/
import Derived.Test.YtbiniecjenencaaBase
import Derived.Deep.QuietTactic
import Derived.BigQuiet
set_option linter.unusedVariables false
set_option linter.unusedSimpArgs false
set_option maxRecDepth 10000
namespace Go.Proofs.Ytbiniecjenencaa
open Go.RowKit

/-- x has all that w has, unchanged. -/
def Ext (w x : World) : Prop := Below w.heap.size w x
theorem Ext.refl (w : World) : Ext w w := Below.refl _ _
theorem Ext.trans {a b c : World} (h : Ext a b) (k : Ext b c) : Ext a c := Below.next h k
theorem Ext.cell {w x : World} {a : Addr} {v : Value} (h : Ext w x) (hc : w.cell? a = some v) : x.cell? a = some v :=
  (Below.cell h (World.block_lt_of_cell? w a hc)).trans hc
/-- What an operation that makes or changes memory leaves of what others read. -/
structure Keeps (R : World → World → Prop) : Prop where
  refl : ∀ w, R w w
  trans : ∀ a b c, R a b → R b c → R a c
theorem Keeps.ext : Keeps Ext := ⟨Ext.refl, fun _ _ _ => Ext.trans⟩
/-- Nothing: for statements whose other operations read no memory. -/
def AnyW : World → World → Prop := fun _ _ => True
theorem Keeps.any : Keeps AnyW := ⟨fun _ => trivial, fun _ _ _ _ _ => trivial⟩

/-- Operations that yield a value or stop, and call nothing. -/
def plainOp : Op → Bool
  | .call c => match c.callee with
    | .builtin .len | .builtin .cap | .builtin .min | .builtin .max => true
    | _ => false
  | .go _ | .defer _ | .panic _ | .send .. | .recv .. | .select .. => false
  | _ => true

theorem value_noEnter {P : Program} {s : Sem Value} {w w' : World} {f : FuncId} {args : Array Value} : (do let x ← s; pure (Next.value x) : Sem Next).run P w ≠ .ok (.enter f args) w' := by
  intro h
  simp only [Sem.run_bind] at h
  cases hs : s.run P w with
  | ok v w1 => rw [hs] at h; simp [Result.andThen, Sem.run_pure] at h
  | halt e w1 => rw [hs] at h; simp [Result.andThen] at h
theorem unit_noEnter {P : Program} {s : Sem Unit} {w w' : World} {f : FuncId} {args : Array Value} : (do s; pure Next.skip : Sem Next).run P w ≠ .ok (.enter f args) w' := by
  intro h
  simp only [Sem.run_bind] at h
  cases hs : s.run P w with
  | ok v w1 => rw [hs] at h; simp [Result.andThen, Sem.run_pure] at h
  | halt e w1 => rw [hs] at h; simp [Result.andThen] at h

theorem bind_noEnter {α : Type} {P : Program} {s : Sem α} {g : α → Sem Next} {w w' : World} {f : FuncId} {args : Array Value} (hg : ∀ x w1, (g x).run P w1 ≠ .ok (.enter f args) w') : (s >>= g).run P w ≠ .ok (.enter f args) w' := by
  intro h
  simp only [Sem.run_bind] at h
  cases hs : s.run P w with
  | ok v w1 => rw [hs] at h; exact hg v w1 h
  | halt e w1 => rw [hs] at h; simp [Result.andThen] at h
theorem andThen_noEnter {r : Result Value} {w' : World} {f : FuncId} {args : Array Value} : (r.andThen fun a w' => Result.ok (Next.value a) w') ≠ .ok (.enter f args) w' := by
  intro h; cases r <;> simp [Result.andThen] at h

theorem plain_noEnter {P : Program} {ρ : Operand → Value} {o : Oper} (hp : plainOp o.op = true) {w w' : World} {f : FuncId} {args : Array Value} : (execOp ρ o).run P w ≠ .ok (.enter f args) w' := by
  unfold execOp
  cases ho : o.op with
  | call c =>
    simp only [ho, plainOp] at hp
    cases hc : c.callee with
    | builtin b =>
      rw [hc] at hp
      cases b <;> simp at hp <;>
        (simp only [resolve, hc, invoke, builtin]
         intro h
         simp only [Sem.run_bind, Sem.run_pure, Result.andThen_ok] at h
         exact andThen_noEnter h)
    | value g => simp [hc] at hp
    | invoke r n => simp [hc] at hp
  | move x => intro h; simp [Sem.run_pure] at h
  | assign x => intro h; simp [Sem.run_pure] at h
  | pick c a b =>
    intro h
    simp only [Sem.run_bind] at h
    cases hs : (asBool (ρ c)).run P w with
    | ok v w1 => rw [hs] at h; simp [Result.andThen, Sem.run_pure] at h
    | halt e w1 => rw [hs] at h; simp [Result.andThen] at h
  | nilCheck x =>
    intro h
    simp only at h
    split at h
    · simp [runtimePanic] at h
    · simp [runtimePanic] at h
    · simp [runtimePanic] at h
    · split at h
      · simp [runtimePanic] at h
      · revert h
        refine bind_noEnter fun p w1 => bind_noEnter fun b w2 => ?_
        split
        · exact fun h => by simp [unsupported, Sem.run] at h
        · exact fun h => by simp [Sem.run_pure] at h
      · simp [Sem.run_pure] at h
    · simp [Sem.run_pure] at h
  | go x => simp [ho, plainOp] at hp
  | defer x => simp [ho, plainOp] at hp
  | panic x => simp [ho, plainOp] at hp
  | send x y => simp [ho, plainOp] at hp
  | recv x y z => simp [ho, plainOp] at hp
  | select x y => simp [ho, plainOp] at hp
  | _ => first | exact value_noEnter | exact unit_noEnter

section
variable {P : Program} {ops : Array Oper} {md : Region.Mode} {R : World → World → Prop}

/-- One value, in every world that keeps what w has. -/
def YieldsS (P : Program) (ops : Array Oper) (R : World → World → Prop) (w : World) (o : Oper) (v : Value) (a : Act) : Prop :=
  (Region.wanted o (yielded ops a.tmps) = true ∧ ∀ x, R w x → (execOp a.eval o).run P x = .ok (.value v) x ∨ ((execOp a.eval o).run P x = .ok .skip x ∧ v = undef)) ∨
  (Region.wanted o (yielded ops a.tmps) = false ∧ v = undef)

theorem YieldsS.of_same {w : World} {o : Oper} {v : Value} {a a' : Act} (hy : YieldsS P ops R w o v a) (he : execOp a'.eval o = execOp a.eval o)
    (hw : Region.wanted o (yielded ops a'.tmps) = Region.wanted o (yielded ops a.tmps)) : YieldsS P ops R w o v a' := by
  unfold YieldsS at *
  rw [he, hw]
  exact hy
theorem YieldsS.mono (hR : Keeps R) {w w' : World} {o : Oper} {v : Value} {a : Act} (hy : YieldsS P ops R w o v a) (h : R w w') : YieldsS P ops R w' o v a := by
  rcases hy with ⟨h1, h2⟩ | h1
  · exact .inl ⟨h1, fun x hx => h2 x (hR.trans _ _ _ h hx)⟩
  · exact .inr h1

def Never : Exit → Act → World → Prop := fun _ _ _ => False

/-- Does an operation come last, whatever order is picked? -/
def lastOp (md : Region.Mode) (ops : Array Oper) (j : Nat) : Bool :=
  (List.range ops.size).all fun k => k == j || (match ops[j]? with | none => false | some o => o.after.toList.any fun e => Region.binds md e && e.on == k)
theorem lastOp_spec {md : Region.Mode} {ops : Array Oper} {j i : Nat} {oj oi : Oper} (h : lastOp md ops j = true) (hj : ops[j]? = some oj) (hi : ops[i]? = some oi) (hij : i ≠ j) : ∃ e ∈ oj.after, Region.binds md e = true ∧ e.on = i := by
  unfold lastOp at h
  have hlt : i < ops.size := (Array.getElem?_eq_some_iff.1 hi).1
  have h1 := List.all_eq_true.1 h i (List.mem_range.2 hlt)
  rw [hj] at h1
  simp only [Bool.or_eq_true, beq_iff_eq, List.any_eq_true, Bool.and_eq_true] at h1
  rcases h1 with h1 | ⟨e, he, hb, ho⟩
  · exact absurd h1 hij
  · exact ⟨e, by simpa using he, hb, ho⟩
/-- Whatever order is picked from here on. -/
def wpAnyM (P : Program) (md : Region.Mode) (ops : Array Oper) (R : World → World → Prop) (Q : Act → World → Prop) : Nat → Array Bool → World → Act → Prop
  | 0, listed, w, a => Region.ready md ops listed = [] ∧ Q a w
  | fuel + 1, listed, w, a => (Region.ready md ops listed = [] → Q a w) ∧
    ∀ i ∈ Region.ready md ops listed, ∃ o, ops[i]? = some o ∧
      ((∃ v, YieldsS P ops R w o v a ∧ wpAnyM P md ops R Q fuel (listed.setIfInBounds i true) w (a.put o.dst v)) ∨
       (Region.wanted o (yielded ops a.tmps) = true ∧ o.wp P a w (fun a' w' => (lastOp md ops i = true ∨ R w w') ∧ wpAnyM P md ops R Q fuel (listed.setIfInBounds i true) w' a') Never))

theorem wp_never {o : Oper} {a : Act} {w : World} {K : Act → World → Prop} {Q : Exit → Act → World → Prop} (h : o.wp P a w K Never) : o.wp P a w K Q := by
  unfold Oper.wp at *
  generalize (execOp a.eval o).run P w = r at *
  cases r with
  | ok n w' =>
    cases n <;> simp only [Oper.upon] at h ⊢ <;>
      first
        | exact h
        | exact Calls.mono h (fun e w'' he => by cases e <;> first | exact he | exact he.elim | (obtain ⟨_, _, hh⟩ := he; exact hh.elim))
  | halt x w' => cases x <;> simp only [Oper.upon] at h ⊢ <;> first | exact h | exact h.elim

theorem wpAny_of_M (hR : Keeps R) {Q : Act → World → Prop} {Q' : Exit → Act → World → Prop} (hQ : ∀ a w, Q a w → Q' .normal a w) : ∀ (fuel : Nat) (listed : Array Bool) (w : World) (a : Act),
    wpAnyM P md ops R Q fuel listed w a → wpAny P md ops Q' fuel listed a w
  | 0, _, _, _, h => ⟨h.1, hQ _ _ h.2⟩
  | fuel + 1, listed, w, a, h => by
    refine ⟨fun h0 => hQ _ _ (h.1 h0), fun i hi => ?_⟩
    obtain ⟨o, ho, hc⟩ := h.2 i hi
    unfold wpOp
    simp only [ho]
    rcases hc with ⟨v, hy, hr⟩ | ⟨hw, hb⟩
    · rcases hy with ⟨hw, hv⟩ | ⟨hw, rfl⟩
      · rw [if_pos hw]
        refine .inl ?_
        unfold Oper.wp
        rcases hv w (hR.refl w) with e | ⟨e, rfl⟩ <;> rw [e] <;> exact wpAny_of_M hR hQ fuel _ w _ hr
      · rw [if_neg (by rw [hw]; exact Bool.false_ne_true)]
        exact wpAny_of_M hR hQ fuel _ w _ hr
    · rw [if_pos hw]
      refine .inl (wp_never (Oper.wp_mono (fun a' w' hh => ?_) hb))
      exact wpAny_of_M hR hQ fuel _ w' _ hh.2

theorem wp_put {j : Nat} {oi oj : Oper} {v : Value} (hj : ops[j]? = some oj) (hap : oi.apart ops oj = true) (hsi : ∀ cs b, oi.op ≠ .select cs b) (hsj : ∀ cs b, oj.op ≠ .select cs b)
    {K : Act → World → Prop} {a : Act} {w : World} (h : oj.wp P (a.put oi.dst v) w K Never) :
    oj.wp P a w (fun a' w' => (execOp a'.eval oi = execOp a.eval oi ∧ Region.wanted oi (yielded ops a'.tmps) = Region.wanted oi (yielded ops a.tmps)) ∧ K (a'.put oi.dst v) w') Never := by
  obtain ⟨h1, h2, h3⟩ := Oper.apart_spec hap
  unfold Oper.wp at *
  rw [execOp_put oj hsj a oi.dst v h1] at h
  have keep : ∀ u, execOp (a.put oj.dst u).eval oi = execOp a.eval oi ∧ Region.wanted oi (yielded ops (a.put oj.dst u).tmps) = Region.wanted oi (yielded ops a.tmps) := fun u =>
    ⟨execOp_put oi hsi a oj.dst u h3, wanted_put oi a oj.dst u h3⟩
  generalize (execOp a.eval oj).run P w = r at *
  cases r with
  | ok n w' =>
    cases n with
    | value u => simp only [Oper.upon] at h ⊢; exact ⟨keep u, by rw [← Act.put_comm a v u h2]; exact h⟩
    | skip => simp only [Oper.upon] at h ⊢; exact ⟨keep undef, by rw [← Act.put_comm a v undef h2]; exact h⟩
    | enter f args =>
      simp only [Oper.upon] at h ⊢
      refine Calls.mono h (fun e w'' he => ?_)
      cases e with
      | returned u => exact ⟨keep u, by rw [← Act.put_comm a v u h2]; exact he⟩
      | panicked c => exact he.elim
      | outgrown => obtain ⟨_, _, hh⟩ := he; exact hh.elim
    | row r args =>
      simp only [Oper.upon] at h ⊢
      exact Rows.mono h (fun u w'' he => ⟨keep u, by rw [← Act.put_comm a v u h2]; exact he⟩)
    | defer d =>
      simp only [Oper.upon] at h ⊢
      have e : ({ a.put oi.dst v with defers := d :: (a.put oi.dst v).defers } : Act) = ({ a with defers := d :: a.defers } : Act).put oi.dst v := by
        cases oi.dst <;> rfl
      have k := keep undef
      refine ⟨?_, ?_⟩
      · have e2 : (({ a with defers := d :: a.defers } : Act).put oj.dst undef).eval = (a.put oj.dst undef).eval := by
          funext x; cases oj.dst <;> rfl
        have e3 : (({ a with defers := d :: a.defers } : Act).put oj.dst undef).tmps = (a.put oj.dst undef).tmps := by
          cases oj.dst <;> rfl
        rw [e2, e3]; exact k
      · rw [e, Act.put_comm _ v undef h2] at h
        exact h
    | _ => simp only [Oper.upon] at h
  | halt x w' => cases x <;> simp only [Oper.upon] at h ⊢ <;> first | exact h | exact h.elim

/-- What yields one value may be taken first. -/
theorem wpAnyM_first (hR : Keeps R) {Q : Act → World → Prop} {i : Nat} {oi : Oper} {v : Value} (hi : ops[i]? = some oi) (hsel : ∀ (j : Nat) (o : Oper) cs b, ops[j]? = some o → o.op ≠ .select cs b) :
    ∀ (fuel : Nat) (listed : Array Bool) (w : World) (a : Act),
      (∀ j oj, ops[j]? = some oj → j ≠ i → listed.getD j true = false → (∀ e ∈ oj.after, Region.binds md e = true → e.on ≠ i) → oi.apart ops oj = true) →
      i ∈ Region.ready md ops listed → YieldsS P ops R w oi v a →
      wpAnyM P md ops R Q fuel (listed.setIfInBounds i true) w (a.put oi.dst v) → wpAnyM P md ops R Q (fuel + 1) listed w a := by
  intro fuel
  induction fuel with
  | zero =>
    intro listed w a _ hr hy H
    refine ⟨fun h => (by rw [h] at hr; cases hr), fun j hj => ?_⟩
    by_cases hji : j = i
    · subst hji; exact ⟨oi, hi, .inl ⟨v, hy, H⟩⟩
    · have := ready_mono hj hji
      rw [H.1] at this
      cases this
  | succ fuel ih =>
    intro listed w a hfree hr hy H
    refine ⟨fun h => (by rw [h] at hr; cases hr), fun j hj => ?_⟩
    by_cases hji : j = i
    · subst hji; exact ⟨oi, hi, .inl ⟨v, hy, H⟩⟩
    · obtain ⟨oj', hoj', h1⟩ := H.2 j (ready_mono hj hji)
      obtain ⟨hjun, oj, hoj, hall⟩ := mem_ready.1 hj
      obtain rfl : oj = oj' := by rw [hoj] at hoj'; exact Option.some.inj hoj'
      have hnot : ∀ e ∈ oj.after, Region.binds md e = true → e.on ≠ i := fun e he hb heq => by
        have h1 := hall e he hb
        have h0 := (mem_ready.1 hr).1
        rw [heq] at h1
        rcases Nat.lt_or_ge i listed.size with h' | h'
        · simp [h'] at h0 h1; rw [h0] at h1; cases h1
        · simp [Array.getElem?_eq_none h'] at h1
      have hap := hfree j oj hoj hji hjun hnot
      obtain ⟨p1, p2, p3⟩ := Oper.apart_spec hap
      have hfree' : ∀ k ok, ops[k]? = some ok → k ≠ i → (listed.setIfInBounds j true).getD k true = false →
          (∀ e ∈ ok.after, Region.binds md e = true → e.on ≠ i) → oi.apart ops ok = true := fun k ok hk hki hun hno => by
        refine hfree k ok hk hki ?_ hno
        by_cases hjk : j = k
        · subst hjk; exact hjun
        · rw [getD_set_ne true hjk] at hun; exact hun
      refine ⟨oj, hoj, ?_⟩
      rcases h1 with ⟨u, hu, hn⟩ | ⟨hw, hb⟩
      · refine .inl ⟨u, hu.of_same (execOp_put oj (fun cs b => hsel j oj cs b hoj) a oi.dst v p1).symm (wanted_put oj a oi.dst v p1).symm, ?_⟩
        refine ih (listed.setIfInBounds j true) w _ hfree' (ready_mono hr (Ne.symm hji)) (hy.of_same (execOp_put oi (fun cs b => hsel i oi cs b hi) a oj.dst u p3) (wanted_put oi a oj.dst u p3)) ?_
        rw [Array.setIfInBounds_comm _ _ hji, ← Act.put_comm a v u p2]
        exact hn
      · rw [wanted_put oj a oi.dst v p1] at hw
        refine .inr ⟨hw, ?_⟩
        refine Oper.wp_mono (fun a' w' hh => ?_) (wp_put hoj hap (fun cs b => hsel i oi cs b hi) (fun cs b => hsel j oj cs b hoj) hb)
        obtain ⟨⟨q1, q2⟩, q3, q4⟩ := hh
        replace q3 : R w w' := by
          rcases q3 with q3 | q3
          · obtain ⟨e, he, hb, ho⟩ := lastOp_spec q3 hoj hi (Ne.symm hji)
            exact absurd ho (hnot e he hb)
          · exact q3
        refine ⟨.inr q3, ih (listed.setIfInBounds j true) w' a' hfree' (ready_mono hr (Ne.symm hji)) ((hy.of_same q1 q2).mono hR q3) ?_⟩
        rw [Array.setIfInBounds_comm _ _ hji]
        exact q4

/-! The steps -/
def mixOk (ops : Array Oper) (listed : Array Bool) (i : Nat) : Bool :=
  Region.noSelect ops && (Region.ready .any ops listed).contains i && Region.free .any ops listed i && (ops[i]?).any fun o => plainOp o.op

theorem mix_start {id : Nat} {Q : Exit → Act → World → Prop} {a : Act} {w : World} {l : List Oper} (R : World → World → Prop) (hR : Keeps R) (n : Nat) (hn : l.length = n) (hm : P.follows .mixedOrders = true)
    (h : wpAnyM P .any l.toArray R (fun a x => Q .normal a x) n (Array.replicate n false) w.drew a) : (Code.region id l.toArray true).wp P Q a w := by
  subst hn
  refine wp_region_any hm ?_
  have := wpAny_of_M (P := P) (md := .any) (Q' := Q) hR (fun _ _ h => h) _ _ w.drew a h
  simpa using this

theorem mix_startE {id : Nat} {Q : Exit → Act → World → Prop} {a : Act} {w : World} {l : List Oper} (n : Nat) (hn : l.length = n) (hm : P.follows .mixedOrders = true)
    (h : ∀ x, Ext w x → wpAnyM P .any l.toArray Ext (fun a x => Q .normal a x) n (Array.replicate n false) x a) : (Code.region id l.toArray true).wp P Q a w :=
  mix_start Ext Keeps.ext n hn hm (h w.drew (show Ext w w.drew from (Below.refl _ _).drew))

theorem mix_end {Q : Act → World → Prop} {listed : Array Bool} {w : World} {a : Act} (hr : Region.ready .any ops listed = []) (h : Q a w) : wpAnyM P .any ops R Q 0 listed w a := ⟨hr, h⟩

/-- A plain operation, by the guide's step. -/
theorem mix_quiet (hR : Keeps R) {l : List Oper} {Q : Act → World → Prop} {n : Nat} {listed : Array Bool} {w : World} {a : Act} (i : Nat) {o : Oper} (hi : l[i]? = some o) (hc : mixOk l.toArray listed i = true) (hw : Region.wanted o (yielded l.toArray a.tmps) = true)
    (h : ∀ (ι : Type) (U : ι → World) (_ : Nonempty ι), (∀ k, R w (U k)) → o.quiet P a (fun y => ∃ k, y = U k) (fun a' => wpAnyM P .any l.toArray R Q n (listed.setIfInBounds i true) w a')) :
    wpAnyM P .any l.toArray R Q (n + 1) listed w a := by
  replace hi : l.toArray[i]? = some o := by simpa using hi
  simp only [mixOk, Bool.and_eq_true, hi, Option.any_some] at hc
  obtain ⟨⟨⟨hs, hr⟩, hf⟩, hp⟩ := hc
  obtain ⟨v, h1, h2⟩ := h {x // R w x} (fun x => x.1) ⟨⟨w, hR.refl w⟩⟩ (fun x => x.2)
  refine wpAnyM_first hR hi (Region.noSelect_spec hs) n listed w a (Region.free_spec hi hf) (by simpa using hr) (v := v) (.inl ⟨hw, fun x hx => ?_⟩) h2
  have h3 := h1 x ⟨⟨x, hx⟩, rfl⟩
  unfold Oper.quietAt at h3
  cases hrun : (execOp a.eval o).run P x with
  | ok m w' =>
    rw [hrun] at h3
    cases m <;> simp only [Oper.quietUpon] at h3
    case value u => obtain ⟨e1, e2⟩ := h3; rw [e1, e2]; exact .inl rfl
    case skip => obtain ⟨e1, e2⟩ := h3; rw [e1]; exact .inr ⟨rfl, e2⟩
    case enter f args => exact absurd hrun (plain_noEnter hp)
  | halt e w' => rw [hrun] at h3; simp only [Oper.quietUpon] at h3

/-- An operation whose guard says no. -/
theorem mix_skip (hR : Keeps R) {l : List Oper} {Q : Act → World → Prop} {n : Nat} {listed : Array Bool} {w : World} {a : Act} (i : Nat) {o : Oper} (hi : l[i]? = some o) (hc : (Region.noSelect l.toArray && (Region.ready .any l.toArray listed).contains i && Region.free .any l.toArray listed i) = true) (hw : Region.wanted o (yielded l.toArray a.tmps) = false)
    (h : wpQuiet P l.toArray (fun _ => True) (fun a' => wpAnyM P .any l.toArray R Q n (listed.setIfInBounds i true) w a') [o] a) :
    wpAnyM P .any l.toArray R Q (n + 1) listed w a := by
  replace h : wpAnyM P .any l.toArray R Q n (listed.setIfInBounds i true) w (a.put o.dst undef) := by
    unfold wpQuiet at h
    rw [if_neg (by rw [hw]; exact Bool.false_ne_true)] at h
    exact h
  replace hi : l.toArray[i]? = some o := by simpa using hi
  simp only [Bool.and_eq_true] at hc
  obtain ⟨⟨hs, hr⟩, hf⟩ := hc
  exact wpAnyM_first hR hi (Region.noSelect_spec hs) n listed w a (Region.free_spec hi hf) (by simpa using hr) (v := undef) (.inr ⟨hw, rfl⟩) h

/-- What is left behind an operation that makes or changes memory. -/
def MixPost (P : Program) (ops : Array Oper) (R : World → World → Prop) (Q : Act → World → Prop) (n : Nat) (listed : Array Bool) (x : World) : Exit → Act → World → Prop
  | .normal, a, w => R x w ∧ wpAnyM P .any ops R Q n listed w a
  | _, _, _ => False
theorem MixPost.mk {Q : Act → World → Prop} {n : Nat} {listed : Array Bool} {x w : World} {a : Act} (h1 : R x w) (h2 : wpAnyM P .any ops R Q n listed w a) : MixPost P ops R Q n listed x .normal a w := ⟨h1, h2⟩

/-- The same, of the last one. -/
def MixLast (P : Program) (ops : Array Oper) (R : World → World → Prop) (Q : Act → World → Prop) (n : Nat) (listed : Array Bool) : Exit → Act → World → Prop
  | .normal, a, w => wpAnyM P .any ops R Q n listed w a
  | _, _, _ => False
theorem MixLast.mk {Q : Act → World → Prop} {n : Nat} {listed : Array Bool} {w : World} {a : Act} (h2 : wpAnyM P .any ops R Q n listed w a) : MixLast P ops R Q n listed .normal a w := h2

/-- An operation that makes or changes memory, where no other may come up: by the plain walk. -/
theorem mix_any {l : List Oper} {Q : Act → World → Prop} {n : Nat} {listed : Array Bool} {w : World} {a : Act} (i : Nat) {o : Oper} (hi : l[i]? = some o) (hc : Region.ready .any l.toArray listed = [i]) (hw : Region.wanted o (yielded l.toArray a.tmps) = true)
    (h : wpList P l.toArray (MixPost P l.toArray R Q n (listed.setIfInBounds i true) w) [o] a w) :
    wpAnyM P .any l.toArray R Q (n + 1) listed w a := by
  replace hi : l.toArray[i]? = some o := by simpa using hi
  refine ⟨fun h0 => (by rw [hc] at h0; cases h0), fun j hj => ?_⟩
  rw [hc] at hj
  obtain rfl : j = i := by simpa using hj
  refine ⟨o, hi, .inr ⟨hw, ?_⟩⟩
  have h1 := h
  unfold wpList at h1
  rw [if_pos hw] at h1
  have hl : ¬ LetsOut (MixPost P l.toArray R Q n (listed.setIfInBounds j true) w) := fun ⟨_, _, hh⟩ => hh
  rcases h1 with h1 | h1
  · have h2 : o.wp P a w (fun a' w' => (lastOp .any l.toArray j = true ∨ R w w') ∧ wpAnyM P .any l.toArray R Q n (listed.setIfInBounds j true) w' a') (MixPost P l.toArray R Q n (listed.setIfInBounds j true) w) :=
      Oper.wp_mono (fun a' w' hh => ⟨.inr hh.1, hh.2⟩) h1
    unfold Oper.wp at h2 ⊢
    generalize (execOp a.eval o).run P w = r at *
    cases r with
    | ok m w' =>
      cases m <;> simp only [Oper.upon] at h2 ⊢ <;>
        first
          | exact h2
          | exact Calls.mono h2 (fun e w'' he => by cases e <;> first | exact he | exact he.elim | exact absurd he hl)
    | halt e w' => cases e <;> simp only [Oper.upon] at h2 ⊢ <;> first | exact h2 | exact h2.elim
  · exact absurd h1.2 hl
/-- The last operation: it may change whatever it likes. -/
theorem mix_last {l : List Oper} {Q : Act → World → Prop} {n : Nat} {listed : Array Bool} {w : World} {a : Act} (i : Nat) {o : Oper} (hi : l[i]? = some o) (hc : Region.ready .any l.toArray listed = [i]) (hlast : lastOp .any l.toArray i = true) (hw : Region.wanted o (yielded l.toArray a.tmps) = true)
    (h : wpList P l.toArray (MixLast P l.toArray R Q n (listed.setIfInBounds i true)) [o] a w) :
    wpAnyM P .any l.toArray R Q (n + 1) listed w a := by
  replace hi : l.toArray[i]? = some o := by simpa using hi
  refine ⟨fun h0 => (by rw [hc] at h0; cases h0), fun j hj => ?_⟩
  rw [hc] at hj
  obtain rfl : j = i := by simpa using hj
  refine ⟨o, hi, .inr ⟨hw, ?_⟩⟩
  have h1 := h
  unfold wpList at h1
  rw [if_pos hw] at h1
  have hl : ¬ LetsOut (MixLast P l.toArray R Q n (listed.setIfInBounds j true)) := fun ⟨_, _, hh⟩ => hh
  rcases h1 with h1 | h1
  · have h2 : o.wp P a w (fun a' w' => (lastOp .any l.toArray j = true ∨ R w w') ∧ wpAnyM P .any l.toArray R Q n (listed.setIfInBounds j true) w' a') (MixLast P l.toArray R Q n (listed.setIfInBounds j true)) :=
      Oper.wp_mono (fun a' w' hh => ⟨.inl hlast, hh⟩) h1
    unfold Oper.wp at h2 ⊢
    generalize (execOp a.eval o).run P w = r at *
    cases r with
    | ok m w' =>
      cases m <;> simp only [Oper.upon] at h2 ⊢ <;>
        first
          | exact h2
          | exact Calls.mono h2 (fun e w'' he => by cases e <;> first | exact he | exact he.elim | exact absurd he hl)
    | halt e w' => cases e <;> simp only [Oper.upon] at h2 ⊢ <;> first | exact h2 | exact h2.elim
  · exact absurd h1.2 hl
end
end Go.Proofs.Ytbiniecjenencaa
