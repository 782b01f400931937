/- Why rows can't be ordered so: both answers. -/
import Derived.Test.YtoggjieagnlneaaRow
import Derived.Maps.OwnOps
import Derived.Deep.DeepCutAuto
set_option linter.unusedVariables false
set_option linter.unusedSimpArgs false
namespace Go.Proofs.Ytoggjieagnlneaa
open Go.RowKit
def rgt (cols : Int) : List Int → List Ky → Int
  | _, [] => 0
  | had, k :: ks => if k.col < 0 ∨ cols ≤ k.col ∨ k.col ∈ had then 1 else rgt cols (had ++ [k.col]) ks
def rightK (cols : Int) (ks : List Ky) : Int := if cols < 0 then 1 else if 8 < ks.length then 3 else rgt cols [] ks
/-- A map of the call's own, and what columns it holds. -/
def MapAt (w : World) (B : Nat) (had : List Int) : Prop := ∃ es clock, w.heap[B]? = some (.map es clock) ∧ es.toList.map (·.key) = had.map (fun c => Value.int .i64 c) ∧ ∀ x ∈ es.toList, x.val = .bool true
theorem MapAt.lt {w : World} {B : Nat} {had : List Int} (h : MapAt w B had) : B < w.heap.size := by
  obtain ⟨es, c, h, _⟩ := h
  exact (Array.getElem?_eq_some_iff.1 h).1
theorem MapAt.mono {w w' : World} {B : Nat} {had : List Int} (h : MapAt w B had) (hb : Below w.heap.size w w') : MapAt w' B had := by
  have hl := h.lt
  obtain ⟨es, c, h, k⟩ := h
  exact ⟨es, c, (hb.block B hl).trans h, k⟩
theorem MapAt.new (w : World) : MapAt (w.alloc (.map #[] 0)) w.heap.size [] := ⟨#[], 0, _root_.Go.heap_alloc_new w _, rfl, by simp⟩
theorem MapAt.keys {es : Array MapEntry} {had : List Int} (h : es.toList.map (·.key) = had.map (fun c => Value.int .i64 c)) : ∀ x ∈ es.toList, MapKept.IsKey (.int .i64) x.key := by
  intro x hx
  have : x.key ∈ had.map (fun c => Value.int .i64 c) := h ▸ List.mem_map_of_mem hx
  obtain ⟨c, _, e⟩ := List.mem_map.1 this
  rw [← e]
  rfl
theorem MapAt.mem {es : Array MapEntry} {had : List Int} (h : es.toList.map (·.key) = had.map (fun c => Value.int .i64 c)) (c : Int) : c ∈ had ↔ ∃ x ∈ es.toList, x.key = .int .i64 c := by
  constructor
  · intro hc
    have : Value.int .i64 c ∈ es.toList.map (·.key) := h ▸ List.mem_map_of_mem hc
    obtain ⟨x, hx, e⟩ := List.mem_map.1 this
    exact ⟨x, hx, e⟩
  · rintro ⟨x, hx, e⟩
    have : x.key ∈ had.map (fun c => Value.int .i64 c) := h ▸ List.mem_map_of_mem hx
    obtain ⟨d, hd, e2⟩ := List.mem_map.1 this
    rw [e] at e2
    cases e2
    exact hd
theorem zeroB (w : World) : (zeroValue 4).run Try.prog w = .ok (.bool false) w := by kernel_rfl
theorem MapAt.look {w : World} {B : Nat} {had : List Int} (h : MapAt w B had) (c : Int) : (Instr.lookup 55 (.map (some B)) (.int .i64 c) false).run Try.prog w = .ok (.bool (decide (c ∈ had))) w := by
  obtain ⟨es, clock, hb, hk, hv⟩ := h
  rcases MapKept.findNow_spec (d := .int .i64) (k := .int .i64 c) rfl es.toList 0 (MapAt.keys hk) with ⟨h1, h2⟩ | ⟨j, e, h1, h2, h3⟩
  · rw [decide_eq_false (fun hc => by obtain ⟨x, hx, e⟩ := (MapAt.mem hk c).1 hc; exact h2 x hx e)]
    simp [Instr.lookup, run_underlying Try.underlying55, MapKept.run_getObj_map hb, MapKept.run_checkKey (d := .int .i64) (k := .int .i64 c) Try.underlying3 (show MapKept.IsKey (.int .i64) (.int .i64 c) from rfl), MapKept.run_findKey Try.underlying3 h1, zeroB, Result.andThen]
  · have hm := List.mem_of_getElem? h2
    rw [decide_eq_true ((MapAt.mem hk c).2 ⟨e, hm, h3⟩)]
    simp [Instr.lookup, run_underlying Try.underlying55, MapKept.run_getObj_map hb, MapKept.run_checkKey (d := .int .i64) (k := .int .i64 c) Try.underlying3 (show MapKept.IsKey (.int .i64) (.int .i64 c) from rfl), MapKept.run_findKey Try.underlying3 h1, hv e hm, Result.andThen]
theorem MapAt.put {w : World} {B : Nat} {had : List Int} (h : MapAt w B had) (c : Int) (hc : c ∉ had) : ∃ w', (Instr.mapUpdate 55 (.map (some B)) (.int .i64 c) (.bool true)).run Try.prog w = .ok () w' ∧ MapAt w' B (had ++ [c]) ∧ w'.heap.size = w.heap.size ∧ ∀ k, k ≤ B → Below k w w' := by
  obtain ⟨es, clock, hb, hk, hv⟩ := h
  rcases MapKept.findNow_spec (d := .int .i64) (k := .int .i64 c) rfl es.toList 0 (MapAt.keys hk) with ⟨h1, h2⟩ | ⟨j, e, h1, h2, h3⟩
  · refine ⟨_, by simp [Instr.mapUpdate, run_underlying Try.underlying55, MapKept.run_getObj_map hb, MapKept.run_checkKey (d := .int .i64) (k := .int .i64 c) Try.underlying3 (show MapKept.IsKey (.int .i64) (.int .i64 c) from rfl), MapKept.run_findKey Try.underlying3 h1, MapKept.run_setObj_map _ hb, Result.andThen]; rfl, ?_, ?_, ?_⟩
    · refine ⟨_, _, (MapKept.heap_set hb).1, ?_, ?_⟩
      · simp [hk]
      · intro x hx
        simp at hx
        rcases hx with hx | rfl
        · exact hv x (by simpa using hx)
        · rfl
    · simp
    · intro k hkB
      exact ⟨rfl, rfl, rfl, by simp, fun i hi => (MapKept.heap_set hb).2 i (by omega)⟩
  · exact absurd ((MapAt.mem hk c).2 ⟨e, List.mem_of_getElem? h2, h3⟩) hc
theorem rgt_step {cols : Int} {ks : List Ky} {j : Nat} (h : j < ks.length) : rgt cols ((ks.take j).map (·.col)) (ks.drop j) = if ks[j].col < 0 ∨ cols ≤ ks[j].col ∨ ks[j].col ∈ (ks.take j).map (·.col) then 1 else rgt cols ((ks.take (j + 1)).map (·.col)) (ks.drop (j + 1)) := by
  rw [List.drop_eq_getElem_cons h, rgt, List.take_succ_eq_append_getElem h, List.map_append]
  rfl
set_option maxRecDepth 100000 in
set_option maxHeartbeats 4000000 in
theorem oright_any (cols : Int) (ak : Option Addr) (p ck : Nat) (ks : List Ky) (w : World) (hk : Cs w ak (kcells ks)) (hp : ks.length = p) (hlp : p ≤ ck) (hcm : ck ≤ maxLen) :
    Calls Try.prog 22 #[.int .i64 cols, .slice ak p ck] w (fun e w' => e = .returned (.int .i64 (rightK cols ks)) ∧ Below w.heap.size w w') := by
  unfold maxLen at hcm
  have hmm := @run_makeMap Try.prog
  obtain ⟨R, hR⟩ : ∃ R, rightK cols ks = R := ⟨_, rfl⟩
  rw [hR]
  unfold rightK at hR
  rw [hp] at hR
  have HP := Lib.hid hp
  clear hp
  by_cases hc : cols < 0
  · rw [if_pos hc] at hR
    subst hR
    clear hmm
    go_enter Try.func22, Try.ntmps22
    go_wp2_with (first | (at_make; refine Stop.un ?_) | (at_builtin; refine Stop.un ?_))
    go_ret
    exact ⟨rfl, Below.refl _ _⟩
  · rw [if_neg hc] at hR
    by_cases hp8 : 8 < p
    · rw [if_pos hp8] at hR
      subst hR
      clear hmm
      go_enter Try.func22, Try.ntmps22
      go_wp2_with (first | (at_make; refine Stop.un ?_) | (at_builtin; refine Stop.un ?_))
      go_ret
      exact ⟨rfl, Below.refl _ _⟩
    · rw [if_neg hp8] at hR
      have HR : Hid (R = rgt cols ((ks.take 0).map (·.col)) (ks.drop 0)) := Lib.hid (by rw [← hR]; rfl)
      have hd8 : decide ((8 : Int) < (p : Int)) = false := decide_eq_false (by omega)
      have m0 := MapAt.new w
      have b0 := (Below.refl w.heap.size w).alloc (Nat.le_refl _) (.map #[] 0)
      clear hR
      go_enter Try.func22, Try.ntmps22
      go_wp2_with (first | (at_make; refine Stop.un ?_) | (at_builtin; refine Stop.un ?_))
      go_loopw [18] (fun c wr => ∃ j : Nat, j ≤ p ∧ c = .int .i64 (j : Int) ∧ MapAt wr w.heap.size ((ks.take j).map (·.col)) ∧ Below w.heap.size w wr ∧ Hid (R = rgt cols ((ks.take j).map (·.col)) (ks.drop j))) (fun c _ => p - (intOf c).toNat)
      case atStart => exact ⟨0, Nat.zero_le _, rfl, m0, b0, HR⟩
      case round =>
        clear HR m0 b0 hmm
        obtain ⟨j, hj, rfl, mm, BB, HR⟩ := hrel
        by_cases hlt : j < p
        · have hjl : j < ks.length := by have := HP.out; omega
          have hk2 := hk.mono BB (Nat.le_refl _)
          obtain ⟨b, o, rfl⟩ := hk2.addr (by rw [kcells_length]; omega)
          obtain ⟨x0, x1⟩ := hk2.kat hjl
          have hr := HR.out
          rw [rgt_step hjl] at hr
          have HT : Hid ((ks.take (j + 1)).map (·.col) = (ks.take j).map (·.col) ++ [ks[j].col]) := Lib.hid (by rw [List.take_succ_eq_append_getElem hjl, List.map_append]; rfl)
          generalize ks[j] = ky at x0 x1 hr HT
          obtain ⟨col, down⟩ := ky
          simp only at x0 x1 hr HT
          generalize (ks.take j).map (·.col) = had at mm hr HT
          have HRR := Lib.hid hr
          have z8 := At.new wr #[.int .i64 col, .bool down] 34
          have bz := (Below.refl wr.heap.size wr).alloc (Nat.le_refl _) (.cells #[.int .i64 col, .bool down] 34)
          have mm2 := mm.mono bz
          have BB2 := BB.next bz
          have hlook := mm2.look col
          have z80 := z8.cell 0 rfl
          have hml := mm2.lt
          clear hr hjl hk2 mm BB HR z8
          go_upto_region 9 with fail
          generalize wr.alloc (.cells #[.int .i64 col, .bool down] 34) = w3 at mm2 BB2 hlook z80 hml bz ⊢
          generalize wr.heap.size = h8 at z80 bz ⊢
          clear bz x0 x1
          by_cases h1 : col < 0
          · have hd1 : decide (col < 0) = true := decide_eq_true h1
            have hR1 : R = 1 := by rw [HRR.out, if_pos (.inl h1)]
            subst hR1
            clear HRR hlook
            go_wp2_with (first | (at_make; refine Stop.un ?_) | (at_builtin; refine Stop.un ?_))
            go_ret
            exact ⟨rfl, BB2⟩
          · have hd1 : decide (col < 0) = false := decide_eq_false h1
            by_cases h2 : cols ≤ col
            · have hd2 : decide (cols ≤ col) = true := decide_eq_true h2
              have hR1 : R = 1 := by rw [HRR.out, if_pos (.inr (.inl h2))]
              subst hR1
              clear HRR hlook
              go_wp2_with (first | (at_make; refine Stop.un ?_) | (at_builtin; refine Stop.un ?_))
              go_ret
              exact ⟨rfl, BB2⟩
            · have hd2 : decide (cols ≤ col) = false := decide_eq_false h2
              by_cases h3 : col ∈ had
              · have hR1 : R = 1 := by rw [HRR.out, if_pos (.inr (.inr h3))]
                subst hR1
                rw [decide_eq_true h3] at hlook
                clear HRR
                go_wp2_with (first | (at_make; refine Stop.un ?_) | (at_builtin; refine Stop.un ?_))
                go_ret
                exact ⟨rfl, BB2⟩
              · have hR1 : R = rgt cols ((ks.take (j + 1)).map (·.col)) (ks.drop (j + 1)) := by
                  rw [HRR.out, if_neg]
                  rintro (h | h | h)
                  · exact h1 h
                  · exact h2 h
                  · exact h3 h
                rw [decide_eq_false h3] at hlook
                obtain ⟨w4, hupd, mm4, hsz, hbl⟩ := mm2.put col h3
                have HR4 := Lib.hid hR1
                have BB4 := BB2.trans (hbl w.heap.size (Nat.le_refl _))
                rw [← HT.out] at mm4
                have HH3 := Lib.hid h3
                clear HRR hR1 HT hbl h3 mm2
                go_wp2_with (first | (at_make; refine Stop.un ?_) | (at_builtin; refine Stop.un ?_))
                go_roundw
                case rel => exact ⟨j + 1, by omega, by go_num, mm4, BB4, HR4⟩
                case measure => simp [intOf]; omega
        · obtain rfl : j = p := by omega
          have hR0 : R = 0 := by rw [HR.out, List.drop_of_length_le (by have := HP.out; omega)]; rfl
          subst hR0
          clear HR
          go_wp2_with (first | (at_make; refine Stop.un ?_) | (at_builtin; refine Stop.un ?_))
          go_ret
          exact ⟨rfl, BB⟩
theorem had_step {ks : List Ky} {c : Int} {m : Nat} (h : m < ks.length) (h0 : c ∉ (ks.take m).map (·.col)) (h1 : ks[m].col ≠ c) : c ∉ (ks.take (m + 1)).map (·.col) := by
  rw [List.take_succ_eq_append_getElem h, List.map_append]
  intro hc
  rcases List.mem_append.1 hc with hc | hc
  · exact h0 hc
  · simp at hc
    exact h1 hc.symm
set_option maxRecDepth 100000 in
set_option maxHeartbeats 4000000 in
theorem orright_any (cols : Int) (ak : Option Addr) (p ck : Nat) (ks : List Ky) (w : World) (hk : Cs w ak (kcells ks)) (hp : ks.length = p) (hlp : p ≤ ck) (hcm : ck ≤ maxLen) :
    Calls Try.prog 23 #[.int .i64 cols, .slice ak p ck] w (fun e w' => e = .returned (.int .i64 (rightK cols ks)) ∧ Below w.heap.size w w') := by
  unfold maxLen at hcm
  obtain ⟨R, hR⟩ : ∃ R, rightK cols ks = R := ⟨_, rfl⟩
  rw [hR]
  unfold rightK at hR
  rw [hp] at hR
  have HP := Lib.hid hp
  clear hp
  by_cases hc : cols < 0
  · rw [if_pos hc] at hR
    subst hR
    go_enter Try.func23, Try.ntmps23
    go_wp2_with (first | (at_make; refine Stop.un ?_) | (at_builtin; refine Stop.un ?_))
    go_ret
    exact ⟨rfl, Below.refl _ _⟩
  · rw [if_neg hc] at hR
    by_cases hp8 : 8 < p
    · rw [if_pos hp8] at hR
      subst hR
      go_enter Try.func23, Try.ntmps23
      go_wp2_with (first | (at_make; refine Stop.un ?_) | (at_builtin; refine Stop.un ?_))
      go_ret
      exact ⟨rfl, Below.refl _ _⟩
    · rw [if_neg hp8] at hR
      have HR : Hid (R = rgt cols ((ks.take 0).map (·.col)) (ks.drop 0)) := Lib.hid (by rw [← hR]; rfl)
      have hd8 : decide ((8 : Int) < (p : Int)) = false := decide_eq_false (by omega)
      clear hR
      go_enter Try.func23, Try.ntmps23
      go_wp2_with (first | (at_make; refine Stop.un ?_) | (at_builtin; refine Stop.un ?_))
      go_loopw [5] (fun c wr => ∃ j : Nat, j ≤ p ∧ c = .int .i64 (j : Int) ∧ Below w.heap.size w wr ∧ Hid (R = rgt cols ((ks.take j).map (·.col)) (ks.drop j))) (fun c _ => p - (intOf c).toNat)
      case atStart => exact ⟨0, Nat.zero_le _, rfl, Below.refl _ _, HR⟩
      case round =>
        clear HR
        obtain ⟨j, hj, rfl, BB, HR⟩ := hrel
        by_cases hlt : j < p
        · have hjl : j < ks.length := by have := HP.out; omega
          have hk2 := hk.mono BB (Nat.le_refl _)
          obtain ⟨b, o, rfl⟩ := hk2.addr (by rw [kcells_length]; omega)
          obtain ⟨x0, x1⟩ := hk2.kat hjl
          have hr := HR.out
          rw [rgt_step hjl] at hr
          obtain ⟨col, hcol⟩ : ∃ col, ks[j].col = col := ⟨_, rfl⟩
          rw [hcol] at hr x0
          have HRR := Lib.hid hr
          have HCOL : Hid (∀ h : j < ks.length, ks[j].col = col) := Lib.hid (fun _ => hcol)
          have hdj : decide ((j : Int) < (p : Int)) = true := decide_eq_true (by omega)
          clear hr hk2 HR x1 hcol hjl
          by_cases h1 : col < 0
          · have hd1 : decide (col < 0) = true := decide_eq_true h1
            have hR1 : R = 1 := by rw [HRR.out, if_pos (.inl h1)]
            subst hR1
            clear HRR
            go_wp2_with (first | (at_make; refine Stop.un ?_) | (at_builtin; refine Stop.un ?_))
            go_ret
            exact ⟨rfl, BB⟩
          · have hd1 : decide (col < 0) = false := decide_eq_false h1
            by_cases h2 : cols ≤ col
            · have hd2 : decide (cols ≤ col) = true := decide_eq_true h2
              have hR1 : R = 1 := by rw [HRR.out, if_pos (.inr (.inl h2))]
              subst hR1
              clear HRR
              go_wp2_with (first | (at_make; refine Stop.un ?_) | (at_builtin; refine Stop.un ?_))
              go_ret
              exact ⟨rfl, BB⟩
            · have hd2 : decide (cols ≤ col) = false := decide_eq_false h2
              obtain ⟨wo, hwo⟩ : ∃ wo : World, wo = wr := ⟨_, rfl⟩
              go_wp2_with (first | (at_make; refine Stop.un ?_) | (at_builtin; refine Stop.un ?_))
              go_loopw [6] (fun c wr => ∃ m : Nat, m ≤ j ∧ c = .int .i64 (m : Int) ∧ Below w.heap.size w wr ∧ Hid (col ∉ (ks.take m).map (·.col))) (fun c _ => j - (intOf c).toNat)
              case atStart => exact ⟨0, Nat.zero_le _, rfl, BB, Lib.hid (by simp)⟩
              case round =>
                clear BB hwo x0
                obtain ⟨m, hm, rfl, BB, HM⟩ := hrel
                by_cases hmj : m < j
                · have hml : m < ks.length := by have := HP.out; omega
                  have hjl : j < ks.length := by have := HP.out; omega
                  have hk2 := hk.mono BB (Nat.le_refl _)
                  obtain ⟨y0, y1⟩ := hk2.kat hml
                  obtain ⟨x0, x1⟩ := hk2.kat hjl
                  rw [HCOL.out hjl] at x0
                  have HS := Lib.hid (had_step (c := col) hml HM.out)
                  have HIN : Hid (ks[m].col = col → R = 1) := Lib.hid (fun e => by
                    rw [HRR.out, if_pos]
                    refine .inr (.inr (List.mem_map.2 ⟨ks[m], ?_, e⟩))
                    exact List.mem_take_iff_getElem.2 ⟨m, by omega, rfl⟩)
                  obtain ⟨d, hdd⟩ : ∃ d, ks[m].col = d := ⟨_, rfl⟩
                  rw [hdd] at y0 HS HIN
                  clear x1 y1 hk2 HM hml hjl hdd
                  go_upto_region 13 with fail
                  refine mix_startE 11 rfl (by kernel_rfl) ?_
                  intro xq hxq
                  replace x0 := Ext.cell hxq x0
                  replace y0 := Ext.cell hxq y0
                  replace BB := Below.next BB hxq
                  clear hxq
                  refine mix_quiet Keeps.ext 0 rfl (by kernel_rfl) rfl ?_
                  intro ι U hne hU
                  go_big_quiet_op
                  clear hU hne U ι
                  show wpAnyM _ _ _ _ _ _ _ _ _
                  refine mix_quiet Keeps.ext 1 rfl (by kernel_rfl) rfl ?_
                  intro ι U hne hU
                  go_big_quiet_op
                  clear hU hne U ι
                  show wpAnyM _ _ _ _ _ _ _ _ _
                  refine mix_quiet Keeps.ext 2 rfl (by kernel_rfl) rfl ?_
                  intro ι U hne hU
                  go_big_quiet_op
                  clear hU hne U ι
                  show wpAnyM _ _ _ _ _ _ _ _ _
                  refine mix_quiet Keeps.ext 3 rfl (by kernel_rfl) rfl ?_
                  intro ι U hne hU
                  go_big_quiet_op
                  clear hU hne U ι
                  show wpAnyM _ _ _ _ _ _ _ _ _
                  refine mix_quiet Keeps.ext 4 rfl (by kernel_rfl) rfl ?_
                  intro ι U hne hU
                  have hcw0 := fun ii => (hU ii).cell x0
                  have hcw1 := fun ii => (hU ii).cell y0
                  go_big_quiet_op
                  clear hU hne hcw0 hcw1 U ι
                  show wpAnyM _ _ _ _ _ _ _ _ _
                  refine mix_quiet Keeps.ext 5 rfl (by kernel_rfl) rfl ?_
                  intro ι U hne hU
                  go_big_quiet_op
                  clear hU hne U ι
                  show wpAnyM _ _ _ _ _ _ _ _ _
                  refine mix_quiet Keeps.ext 6 rfl (by kernel_rfl) rfl ?_
                  intro ι U hne hU
                  go_big_quiet_op
                  clear hU hne U ι
                  show wpAnyM _ _ _ _ _ _ _ _ _
                  refine mix_quiet Keeps.ext 7 rfl (by kernel_rfl) rfl ?_
                  intro ι U hne hU
                  go_big_quiet_op
                  clear hU hne U ι
                  show wpAnyM _ _ _ _ _ _ _ _ _
                  refine mix_quiet Keeps.ext 8 rfl (by kernel_rfl) rfl ?_
                  intro ι U hne hU
                  go_big_quiet_op
                  clear hU hne U ι
                  show wpAnyM _ _ _ _ _ _ _ _ _
                  refine mix_quiet Keeps.ext 9 rfl (by kernel_rfl) rfl ?_
                  intro ι U hne hU
                  have hcw0 := fun ii => (hU ii).cell x0
                  have hcw1 := fun ii => (hU ii).cell y0
                  go_big_quiet_op
                  clear hU hne hcw0 hcw1 U ι
                  show wpAnyM _ _ _ _ _ _ _ _ _
                  refine mix_quiet Keeps.ext 10 rfl (by kernel_rfl) rfl ?_
                  intro ι U hne hU
                  go_big_quiet_op
                  clear hU hne U ι
                  show wpAnyM _ _ _ _ _ _ _ _ _
                  refine mix_end (by kernel_rfl) ?_
                  clear x0 y0
                  by_cases hc : d = col
                  ·
                    have hd : (d == col) = true := by simpa using hc
                    obtain rfl := HIN.out hc
                    clear hc HIN HS HRR HCOL
                    go_wp2_with (first | (at_make; refine Stop.un ?_) | (at_builtin; refine Stop.un ?_))
                    go_ret
                    exact ⟨rfl, BB⟩
                  ·
                    have hd : (d == col) = false := by simpa using hc
                    have HM2 := Lib.hid (HS.out hc)
                    clear hc HIN HS
                    go_wp2_with (first | (at_make; refine Stop.un ?_) | (at_builtin; refine Stop.un ?_))
                    go_roundw
                    case rel => exact ⟨m + 1, by omega, by go_num, BB, HM2⟩
                    case measure => simp [intOf]; omega
                · obtain rfl : m = j := by omega
                  have hR1 : R = rgt cols ((ks.take (m + 1)).map (·.col)) (ks.drop (m + 1)) := by
                    rw [HRR.out, if_neg]
                    rintro (h | h | h)
                    · omega
                    · omega
                    · exact HM.out h
                  have HR4 := Lib.hid hR1
                  clear hR1 HRR HM HCOL
                  go_wp2_with (first | (at_make; refine Stop.un ?_) | (at_builtin; refine Stop.un ?_))
                  go_roundw
                  case rel => exact ⟨m + 1, by omega, by go_num, BB, HR4⟩
                  case measure => simp [intOf]; omega
        · obtain rfl : j = p := by omega
          have hR0 : R = 0 := by rw [HR.out, List.drop_of_length_le (by have := HP.out; omega)]; rfl
          subst hR0
          clear HR
          go_wp2_with (first | (at_make; refine Stop.un ?_) | (at_builtin; refine Stop.un ?_))
          go_ret
          exact ⟨rfl, BB⟩
end Go.Proofs.Ytoggjieagnlneaa
