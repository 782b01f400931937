/- Is a number among numbers? -/
import Derived.Test.YtbiniecjenencaaInts
import Derived.Test.YtbiniecjenencaaAt
import Derived.Test.YtbiniecjenencaaBase
import Derived.Test.YtbiniecjenencaaVal
import Derived.Test.YtbiniecjenencaaGrpA
import Derived.Test.YtbiniecjenencaaOSort
set_option linter.unusedVariables false
set_option linter.unusedSimpArgs false
set_option maxRecDepth 10000
namespace Go.Proofs.Ytbiniecjenencaa
open Go.RowKit
/-! Is a number among numbers? -/
set_option maxHeartbeats 1000000 in
theorem gindex_any (ao : Option Addr) (m cap : Nat) (l : List Int) (x : Int) (w : World) (hc : Cs w ao (icells l)) (hm : l.length = m) (hlc : m ≤ cap) (hl : cap ≤ maxLen) :
    Calls Try.prog 46 #[.slice ao m cap, .int .i64 x] w (fun e w' => ∃ i : Int, e = .returned (.int .i64 i) ∧ (0 ≤ i ↔ x ∈ l) ∧ w = w') := by
  unfold maxLen at hl
  have HM := Lib.hid hm
  clear hm
  go_enter Try.func46, Try.ntmps46
  go_wp2_with (first | (at_make; refine Stop.un ?_) | (at_builtin; refine Stop.un ?_) | (with_reducible refine Stop.conv 22 9 ?_) | (with_reducible refine Stop.conv 9 22 ?_))
  go_loopw [8] (fun c wr => ∃ j : Nat, j ≤ m ∧ c = .int .i64 (j : Int) ∧ wr = w ∧ Hid (x ∉ l.take j)) (fun c _ => m - (intOf c).toNat)
  case atStart => exact ⟨0, Nat.zero_le _, rfl, rfl, Lib.hid (by simp)⟩
  case round =>
    obtain ⟨j, hj, rfl, rfl, HX⟩ := hrel
    by_cases hlt : j < m
    · have hjl : j < l.length := by have := HM.out; omega
      obtain ⟨b, o, rfl⟩ := hc.addr (by rw [icells_length]; omega)
      have x1 : wr.cell? ⟨b, o + j, none⟩ = some (.int .i64 l[j]) := hc.at (by simp [icells, hjl])
      have hT : l.take (j + 1) = l.take j ++ [l[j]] := List.take_succ_eq_append_getElem hjl
      have hmem : l[j] ∈ l := List.getElem_mem _
      generalize l[j] = y at x1 hT hmem
      by_cases he : x = y
      · subst he
        have hIn := Lib.hid hmem
        clear hT hmem HX hjl
        go_wp2_with (first | (at_make; refine Stop.un ?_) | (at_builtin; refine Stop.un ?_) | (with_reducible refine Stop.conv 22 9 ?_) | (with_reducible refine Stop.conv 9 22 ?_))
        go_ret
        exact ⟨_, rfl, ⟨fun _ => hIn.out, fun _ => by omega⟩, rfl⟩
      · have hb : (x == y) = false := by simpa using he
        have HX2 : Hid (x ∉ l.take (j + 1)) := Lib.hid (by rw [hT, List.mem_append, List.mem_singleton]; exact fun h => h.elim HX.out he)
        clear hT hmem HX hjl he
        go_wp2_with (first | (at_make; refine Stop.un ?_) | (at_builtin; refine Stop.un ?_) | (with_reducible refine Stop.conv 22 9 ?_) | (with_reducible refine Stop.conv 9 22 ?_))
        go_roundw
        case rel => exact ⟨j + 1, by omega, by go_num, True.intro, HX2⟩
        case measure => simp [intOf]; omega
    · have hjm : j = m := by omega
      have hno := HX.out
      rw [List.take_of_length_le (by rw [HM.out]; omega)] at hno
      have HNO := Lib.hid hno
      clear HX hno
      go_wp2_with (first | (at_make; refine Stop.un ?_) | (at_builtin; refine Stop.un ?_) | (with_reducible refine Stop.conv 22 9 ?_) | (with_reducible refine Stop.conv 9 22 ?_))
      go_ret
      exact ⟨_, rfl, ⟨fun h => by omega, fun h => absurd h HNO.out⟩, rfl⟩
set_option maxHeartbeats 1000000 in
theorem gcontains_any (ao : Option Addr) (m cap : Nat) (l : List Int) (x : Int) (w : World) (hc : Cs w ao (icells l)) (hm : l.length = m) (hlc : m ≤ cap) (hl : cap ≤ maxLen) :
    Calls Try.prog 31 #[.slice ao m cap, .int .i64 x] w (fun e w' => e = .returned (.bool (decide (x ∈ l))) ∧ w = w') := by
  have H := Lib.hid (gindex_any ao m cap l x w hc hm hlc hl)
  have HQ : Hid (∃ q : Bool, decide (x ∈ l) = q) := Lib.hid ⟨_, rfl⟩
  obtain ⟨q, hq⟩ := HQ.out
  rw [hq]
  have HQ := Lib.hid hq
  clear hc hm hl hq
  go_enter Try.func31, Try.ntmps31
  go_wp2_with (first | (at_make; refine Stop.un ?_) | (at_builtin; refine Stop.un ?_) | (with_reducible refine Stop.conv 22 9 ?_) | (with_reducible refine Stop.conv 9 22 ?_))
  refine H.out.mono ?_
  rintro e w1 ⟨i, rfl, hi, rfl⟩
  by_cases h0 : 0 ≤ i
  · obtain rfl : q = true := by rw [← HQ.out]; exact decide_eq_true (hi.1 h0)
    clear hi
    go_wp2_with (first | (at_make; refine Stop.un ?_) | (at_builtin; refine Stop.un ?_) | (with_reducible refine Stop.conv 22 9 ?_) | (with_reducible refine Stop.conv 9 22 ?_))
    go_ret
    exact ⟨by simp [h0], rfl⟩
  · obtain rfl : q = false := by rw [← HQ.out]; exact decide_eq_false (fun h => h0 (hi.2 h))
    clear hi
    go_wp2_with (first | (at_make; refine Stop.un ?_) | (at_builtin; refine Stop.un ?_) | (with_reducible refine Stop.conv 22 9 ?_) | (with_reducible refine Stop.conv 9 22 ?_))
    go_ret
    exact ⟨by simp [h0], rfl⟩
/-- Is a number a column? -/
def isCol (n : Nat) (c : Int) : Bool := decide (0 ≤ c) && decide (c < n)
theorem iscol_any (c : Int) (gb : Nat) (ka : Option Addr) (kn kc : Nat) (w : World) (z : At w gb #[.slice ka kn kc] 22) (hl : kn ≤ kc) (hcm : kc ≤ maxLen) :
    Calls Try.prog 30 #[.int .i64 c, .pointer (some ⟨gb, 0, none⟩)] w (fun e w' => e = .returned (.bool (isCol kn c)) ∧ w = w') := by
  unfold maxLen at hcm
  unfold isCol
  have x0 := z.cell 0 rfl
  by_cases h1 : 0 ≤ c
  · have d1 : decide (0 ≤ c) = true := decide_eq_true h1
    go_enter Try.func30, Try.ntmps30
    go_wp2_with (first | (at_make; refine Stop.un ?_) | (at_builtin; refine Stop.un ?_) | (with_reducible refine Stop.conv 22 9 ?_) | (with_reducible refine Stop.conv 9 22 ?_))
    go_ret
    exact ⟨by simp [h1], rfl⟩
  · have d1 : decide (0 ≤ c) = false := decide_eq_false h1
    go_enter Try.func30, Try.ntmps30
    go_wp2_with (first | (at_make; refine Stop.un ?_) | (at_builtin; refine Stop.un ?_) | (with_reducible refine Stop.conv 22 9 ?_) | (with_reducible refine Stop.conv 9 22 ?_))
    go_ret
    exact ⟨by simp [h1], rfl⟩
/-! append of bytes. -/
theorem Try.infoU8 : (Try.prog.info? 5).map (fun i => (i.zero, i.size, i.bytes)) = some (some (.int .u8 0), 1, 1) := by kernel_rfl
def OwnB (w0 w : World) (v : Value) (n : Nat) (l : List UInt8) : Prop := Own w0 w 5 1 v n (bcells l)
/-- It returns a slice of its own, of these bytes. -/
def RetB (w0 : World) (l : List UInt8) (e : Ending) (w : World) : Prop := ∃ ao n cap, l.length = n ∧ e = .returned (.slice ao n cap) ∧ OwnB w0 w (.slice ao n cap) n l

theorem OwnB.length {w0 w : World} {v : Value} {n : Nat} {l : List UInt8} (h : OwnB w0 w v n l) : l.length = n := by
  have := Own.length h; simpa [bcells_length] using this

/-- append of bytes, onto bytes of the call's own. -/
theorem app_bs {w : World} {ops : Array Oper} {rest : List Oper} {o : Oper} {a : Act} {Q : Exit → Act → World → Prop} (w0 : World) (s x : Operand)
    (hgd : Region.wanted o (yielded ops a.tmps) = true) (ho : o.op = .call { callee := .builtin .append, args := #[s, x], argTypes := #[22, 22] })
    {v : Value} {n : Nat} {l : List UInt8} (hown : OwnB w0 w v n l) (hs : a.eval s = v)
    {ao : Option Addr} {m cap : Nat} {news : List UInt8} (hx : a.eval x = .slice ao m cap) (hm : news.length = m) (hc : Cs w ao (bcells news)) (hb : n + m ≤ 140737488355328)
    (h : ∀ ao cap w', OwnB w0 w' (.slice ao (n + m) cap) (n + m) (l ++ news) → wpList Try.prog ops Q rest (a.put o.dst (.slice ao (n + m) cap)) w') :
    wpList Try.prog ops Q (o :: rest) a w :=
  wpList_append_Own w0 5 (.int .u8 0) 1 1 Try.infoU8 rfl (by decide) s x 22 22 Try.underlying22 hgd ho v n (bcells l) hown hs _ m (bcells news) hx
    (Src.ofCs Try.underlying22 hc (by simp [bcells_length, hm]) (bcells_one _)) (by omega) (by omega) (fun ao cap w' h1 _ _ _ => h ao cap w' (by rw [OwnB, bcells_append]; exact h1))

theorem app_bs' {w : World} {ops : Array Oper} {rest : List Oper} {o : Oper} {a : Act} {Q : Exit → Act → World → Prop} (w0 : World) (s x : Operand)
    (hgd : Region.wanted o (yielded ops a.tmps) = true) (ho : o.op = .call { callee := .builtin .append, args := #[s, x], argTypes := #[22, 22] })
    {v : Value} {n : Nat} {l : List UInt8} (hown : OwnB w0 w v n l) (hs : a.eval s = v)
    {ao : Option Addr} {m cap : Nat} {news : List UInt8} (hx : a.eval x = .slice ao m cap) (hm : news.length = m) (hc : Cs w ao (bcells news)) (hb : n + m ≤ 140737488355328)
    (h : ∀ ao cap w', OwnB w0 w' (.slice ao (n + m) cap) (n + m) (l ++ news) → w.grownBy w' v.ownBlock → (ao = none ↔ v = .slice none 0 0 ∧ m = 0) → wpList Try.prog ops Q rest (a.put o.dst (.slice ao (n + m) cap)) w') :
    wpList Try.prog ops Q (o :: rest) a w :=
  wpList_append_Own w0 5 (.int .u8 0) 1 1 Try.infoU8 rfl (by decide) s x 22 22 Try.underlying22 hgd ho v n (bcells l) hown hs _ m (bcells news) hx
    (Src.ofCs Try.underlying22 hc (by simp [bcells_length, hm]) (bcells_one _)) (by omega) (by omega) (fun ao cap w' h1 h2 h3 _ => h ao cap w' (by rw [OwnB, bcells_append]; exact h1) h2 h3)

/-- append of one byte, that lies in a new block. -/
theorem cs_new (w : World) (v : Value) (e : TypeId) : Cs (w.alloc (.cells #[v] e)) (some ⟨w.heap.size, 0, none⟩) [v] := by
  intro j u hj
  match j, hj with
  | 0, hj => simp at hj; subst hj; exact ⟨_, _, rfl, by simp⟩
theorem app_b1 {w : World} {c : Int} {e : TypeId} {ops : Array Oper} {rest : List Oper} {o : Oper} {a : Act} {Q : Exit → Act → World → Prop} (w0 : World) (s x : Operand)
    (hgd : Region.wanted o (yielded ops a.tmps) = true) (ho : o.op = .call { callee := .builtin .append, args := #[s, x], argTypes := #[22, 22] })
    {v : Value} {n : Nat} {l : List UInt8} (hown : OwnB w0 w v n l) (hs : a.eval s = v) (h0 : 0 ≤ c) (h1 : c < 256)
    (hx : a.eval x = .slice (some ⟨w.heap.size, 0, none⟩) 1 1) (hb : n + 1 ≤ 140737488355328)
    (h : ∀ ao cap w', OwnB w0 w' (.slice ao (n + 1) cap) (n + 1) (l ++ [UInt8.ofNat c.toNat]) → wpList Try.prog ops Q rest (a.put o.dst (.slice ao (n + 1) cap)) w') :
    wpList Try.prog ops Q (o :: rest) a (w.alloc (.cells #[.int .u8 c] e)) :=
  app_bs w0 s x hgd ho (Own.alloc hown _) hs hx rfl (by rw [bcells_int c h0 h1]; exact cs_new w _ e) hb h

theorem app_b1' {w : World} {c : Int} {e : TypeId} {ops : Array Oper} {rest : List Oper} {o : Oper} {a : Act} {Q : Exit → Act → World → Prop} (w0 : World) (s x : Operand)
    (hgd : Region.wanted o (yielded ops a.tmps) = true) (ho : o.op = .call { callee := .builtin .append, args := #[s, x], argTypes := #[22, 22] })
    {v : Value} {n : Nat} {l : List UInt8} (hown : OwnB w0 w v n l) (hs : a.eval s = v) (h0 : 0 ≤ c) (h1 : c < 256)
    (hx : a.eval x = .slice (some ⟨w.heap.size, 0, none⟩) 1 1) (hb : n + 1 ≤ 140737488355328)
    (h : ∀ ao cap w', OwnB w0 w' (.slice ao (n + 1) cap) (n + 1) (l ++ [UInt8.ofNat c.toNat]) → w.grownBy w' v.ownBlock → wpList Try.prog ops Q rest (a.put o.dst (.slice ao (n + 1) cap)) w') :
    wpList Try.prog ops Q (o :: rest) a (w.alloc (.cells #[.int .u8 c] e)) :=
  app_bs' w0 s x hgd ho (Own.alloc hown _) hs hx rfl (by rw [bcells_int c h0 h1]; exact cs_new w _ e) hb
    (fun ao cap w' h2 h3 _ => h ao cap w' h2 ⟨h3.os, h3.tape, h3.output, Nat.le_trans (by simp) h3.size, fun k hk hn => (h3.block k (by simp; omega) hn).trans (Below.heap_alloc _ _ _ hk)⟩)

/-- append of one byte, and where the new slice lies. -/
theorem app_k1 {w : World} {u : UInt8} {e : TypeId} {ops : Array Oper} {rest : List Oper} {o : Oper} {a : Act} {Q : Exit → Act → World → Prop} (w0 : World) (s x : Operand)
    (hgd : Region.wanted o (yielded ops a.tmps) = true) (ho : o.op = .call { callee := .builtin .append, args := #[s, x], argTypes := #[22, 22] })
    {v : Value} {n : Nat} {l : List UInt8} (hown : OwnB w0 w v n l) (hs : a.eval s = v)
    (hx : a.eval x = .slice (some ⟨w.heap.size, 0, none⟩) 1 1) (hb : n + 1 ≤ 140737488355328)
    (h : ∀ ao cap w', OwnB w0 w' (.slice ao (n + 1) cap) (n + 1) (l ++ [u]) → w.grownBy w' v.ownBlock → (∀ k, (Value.slice ao (n + 1) cap).ownBlock = some k → v.ownBlock = some k ∨ w.heap.size ≤ k) → wpList Try.prog ops Q rest (a.put o.dst (.slice ao (n + 1) cap)) w') :
    wpList Try.prog ops Q (o :: rest) a (w.alloc (.cells #[.int .u8 ((u.toNat : Nat) : Int)] e)) :=
  wpList_append_Own w0 5 (.int .u8 0) 1 1 Try.infoU8 rfl (by decide) s x 22 22 Try.underlying22 hgd ho v n (bcells l) (Own.alloc hown _) hs _ 1 (bcells [u]) hx
    (Src.ofCs Try.underlying22 (cs_new w _ e) (by simp [bcells_length]) (bcells_one _)) (by omega) (by omega)
    (fun ao cap w' h2 h3 _ h4 => h ao cap w' (by rw [OwnB, bcells_append]; exact h2) ⟨h3.os, h3.tape, h3.output, Nat.le_trans (by simp) h3.size, fun k hk hn => (h3.block k (by simp; omega) hn).trans (Below.heap_alloc _ _ _ hk)⟩
      (fun k hk => (h4 k hk).imp id (fun hh => by simp at hh; omega)))
theorem app_k2 {w : World} {u : UInt8} {c : Int} {e : TypeId} {ops : Array Oper} {rest : List Oper} {o : Oper} {a : Act} {Q : Exit → Act → World → Prop} (w0 : World) (s x : Operand)
    (hgd : Region.wanted o (yielded ops a.tmps) = true) (ho : o.op = .call { callee := .builtin .append, args := #[s, x], argTypes := #[22, 22] })
    {v : Value} {n : Nat} {l : List UInt8} (hown : OwnB w0 w v n l) (hs : a.eval s = v) (hu : c = ((u.toNat : Nat) : Int))
    (hx : a.eval x = .slice (some ⟨w.heap.size, 0, none⟩) 1 1) (hb : n + 1 ≤ 140737488355328)
    (h : ∀ ao cap w', OwnB w0 w' (.slice ao (n + 1) cap) (n + 1) (l ++ [u]) → w.grownBy w' v.ownBlock → (∀ k, (Value.slice ao (n + 1) cap).ownBlock = some k → v.ownBlock = some k ∨ w.heap.size ≤ k) → wpList Try.prog ops Q rest (a.put o.dst (.slice ao (n + 1) cap)) w') :
    wpList Try.prog ops Q (o :: rest) a (w.alloc (.cells #[.int .u8 c] e)) := by
  subst hu
  exact app_k1 w0 s x hgd ho hown hs hx hb h
theorem At.grownK {w w' : World} {g : Nat} {cs : Array Value} {t : TypeId} {row : Option Nat} (h : At w g cs t) (hg : w.grownBy w' row) (hn : row ≠ some g) : At w' g cs t := (hg.block g h.lt (fun e => hn e.symm)).trans h
/-! The kinds of what is told of groups. -/
/-- May these be columns by which rows are grouped? -/
def byB (n : Nat) (l : List Int) : Bool := l.all (isCol n) && decide l.Nodup
/-- May that be told? -/
def agB (n : Nat) (x : Ag) : Bool := if x.op = 1 then decide (x.col = 0) else decide (2 ≤ x.op) && decide (x.op ≤ 5) && isCol n x.col
def kdAt (kinds : List UInt8) (c : Int) : UInt8 := kinds.getD c.toNat 0
def agT (kinds : List UInt8) (x : Ag) : Bool := decide (x.op = 3) && !decide (kdAt kinds x.col = 2)
def agK (kinds : List UInt8) (x : Ag) : UInt8 := if x.op = 4 ∨ x.op = 5 then kdAt kinds x.col else 2
/-- The error of kinds. -/
def kindsE (kinds : List UInt8) (by_ : List Int) (ags : List Ag) : Int :=
  if 8 < by_.length + ags.length then 3 else if byB kinds.length by_ = false then 1 else if ags.all (agB kinds.length) = false then 1 else if ags.any (agT kinds) = true then 7 else 0
def kindsL (kinds : List UInt8) (by_ : List Int) (ags : List Ag) : List UInt8 := by_.map (kdAt kinds) ++ ags.map (agK kinds)
def kR (E : Int) (L : List UInt8) : List UInt8 := if E = 0 then L else []
theorem byB_bad {n : Nat} {l : List Int} {j : Nat} (h : j < l.length) (hb : isCol n l[j] = false ∨ l[j] ∈ l.take j) : byB n l = false := by
  unfold byB
  rcases hb with hb | hb
  · have : l.all (isCol n) = false := by
      rw [List.all_eq_false]
      exact ⟨l[j], List.getElem_mem _, by rw [hb]; decide⟩
    rw [this]; rfl
  · have : ¬ l.Nodup := fun hn => by
      rw [← List.take_append_drop j l, List.nodup_append] at hn
      refine hn.2.2 _ hb l[j] ?_ rfl
      rw [List.drop_eq_getElem_cons h]
      exact List.mem_cons_self
    rw [decide_eq_false this, Bool.and_false]
theorem byB_step {n : Nat} {l : List Int} {j : Nat} (h : j < l.length) (h1 : byB n (l.take j) = true) (h2 : isCol n l[j] = true) (h3 : l[j] ∉ l.take j) : byB n (l.take (j + 1)) = true := by
  rw [List.take_succ_eq_append_getElem h]
  unfold byB at h1 ⊢
  rw [Bool.and_eq_true, decide_eq_true_eq] at h1 ⊢
  refine ⟨by rw [List.all_append, h1.1]; simp [h2], ?_⟩
  rw [List.nodup_append]
  exact ⟨h1.2, by simp, fun a ha b hb e => h3 (by rw [List.mem_singleton] at hb; rw [← hb, ← e]; exact ha)⟩
theorem kcell {w : World} {b o : Nat} {kinds : List UInt8} (h : Cs w (some ⟨b, o, none⟩) (bcells kinds)) {cc : Nat} (hc : cc < kinds.length) : w.cell? ⟨b, o + cc, none⟩ = some (.int .u8 (((kdAt kinds cc).toNat : Nat) : Int)) := by
  refine h.at ?_
  rw [bcells_get _ _ hc]
  simp [kdAt, hc]
set_option maxRecDepth 100000 in
set_option maxHeartbeats 8000000 in
theorem gkinds_any (ka : Option Addr) (kn kc : Nat) (kinds : List UInt8) (ba : Option Addr) (bn bc : Nat) (bs : List Int) (ga : Option Addr) (gn gc : Nat) (ags : List Ag) (w : World)
    (h1 : Cs w ka (bcells kinds)) (e1 : kinds.length = kn) (m1 : kn ≤ kc) (c1 : kc ≤ maxLen)
    (h2 : Cs w ba (icells bs)) (e2 : bs.length = bn) (m2 : bn ≤ bc) (c2 : bc ≤ maxLen) (s2 : bn ≤ 1000)
    (h3 : Cs w ga (agcells ags)) (e3 : ags.length = gn) (m3 : gn ≤ gc) (c3 : gc ≤ maxLen) (s3 : gn ≤ 1000) :
    Calls Try.prog 19 #[.slice ka kn kc, .slice ba bn bc, .slice ga gn gc] w (fun e w' => ∃ a n c, e = .returned (.tuple #[.slice a n c, .int .i64 (kindsE kinds bs ags)]) ∧ OwnB w w' (.slice a n c) n (kR (kindsE kinds bs ags) (kindsL kinds bs ags))) := by
  unfold maxLen at c1 c2 c3
  have HN := Lib.hid (And.intro e1 (And.intro e2 e3))
  have b1 := (Below.refl w.heap.size w).alloc (Nat.le_refl _) (.cells #[.slice ka kn kc] 22)
  have zb := At.new w #[.slice ka kn kc] 22
  have HTT := Lib.hid (And.intro h1 (And.intro h2 h3))
  obtain ⟨E, hE⟩ : ∃ E, kindsE kinds bs ags = E := ⟨_, rfl⟩
  have HE := Lib.hid hE
  rw [hE]
  clear h1 h2 h3 e1 e2 e3 hE
  have HR1 : Hid (∀ w', E = 1 → Below w.heap.size w w' → ∃ a n c, Ending.returned (.tuple #[.slice none 0 0, .int .i64 1]) = Ending.returned (.tuple #[.slice a n c, .int .i64 E]) ∧ OwnB w w' (.slice a n c) n (kR E (kindsL kinds bs ags))) := Lib.hid (fun w' h b => ⟨none, 0, 0, by rw [h], by rw [h]; exact Own.nil _ _ b⟩)
  by_cases h8 : 8 < bn + gn
  · obtain rfl : E = 3 := by
      rw [← HE.out]
      exact if_pos (by rw [HN.out.2.1, HN.out.2.2]; exact h8)
    have h8d : decide ((8 : Int) < (bn : Int) + (gn : Int)) = true := decide_eq_true (by omega)
    go_enter Try.func19, Try.ntmps19
    go_wp2_with (first | (at_make; refine Stop.un ?_) | (at_builtin; refine Stop.un ?_) | (with_reducible refine Stop.conv 22 9 ?_) | (with_reducible refine Stop.conv 9 22 ?_))
    exact bodyPost_ret (v := .tuple #[.slice none 0 0, .int .i64 3]) (by simp [results, Try.results19, go_sem]) rfl ⟨none, 0, 0, rfl, Own.nil _ _ b1⟩
  · have h8d : decide ((8 : Int) < (bn : Int) + (gn : Int)) = false := decide_eq_false (by omega)
    have HE2 : Hid (E = if byB kn bs = false then 1 else if ags.all (agB kn) = false then 1 else if ags.any (agT kinds) = true then 7 else 0) := Lib.hid (by
      rw [← HE.out]
      unfold kindsE
      rw [if_neg (by rw [HN.out.2.1, HN.out.2.2]; exact h8), HN.out.1])
    have hb8 : bn ≤ 8 := by omega
    have hg8 : gn ≤ 8 := by omega
    clear HE h8
    go_enter Try.func19, Try.ntmps19
    go_upto_region 1 with fail
    generalize w.alloc (.cells #[.slice ka kn kc] 22) = wA at zb b1 ⊢
    have hgb : w.heap.size ≤ w.heap.size := Nat.le_refl _
    obtain ⟨gb, hgbe⟩ : ∃ gb, w.heap.size = gb := ⟨_, rfl⟩
    rw [hgbe] at zb ⊢
    have HGB : Hid (w.heap.size ≤ gb) := Lib.hid (by omega)
    clear hgb hgbe
    go_wp2_with (first | (at_make; refine Stop.un ?_) | (at_builtin; refine Stop.un ?_) | (with_reducible refine Stop.conv 22 9 ?_) | (with_reducible refine Stop.conv 9 22 ?_))
    go_loopw [25, 9] (fun iv ov wr => ∃ (j : Nat) (ab : Option Addr) (cb : Nat), j ≤ bn ∧ iv = .int .i64 (j : Int) ∧ ov = .slice ab j cb ∧ OwnB w wr (.slice ab j cb) j ((bs.take j).map (kdAt kinds)) ∧ At wr gb #[.slice ka kn kc] 22 ∧ (Value.slice ab j cb).ownBlock ≠ some gb ∧ Hid (byB kn (bs.take j) = true)) (fun iv _ _ => bn - (intOf iv).toNat)
    case atStart => exact ⟨0, none, 0, Nat.zero_le _, rfl, rfl, Own.nil _ _ b1, zb, by simp [Value.ownBlock], Lib.hid (by unfold byB; simp)⟩
    case round =>
      clear b1 zb
      obtain ⟨j, ab, cb, hj, rfl, rfl, O, zb, hne, HB⟩ := hrel
      by_cases hlt : j < bn
      · have hjl : j < bs.length := by have := HN.out.2.1; omega
        have h2 := HTT.out.2.1.mono (Own.below O) (Nat.le_refl _)
        have h1 := HTT.out.1.mono (Own.below O) (Nat.le_refl _)
        obtain ⟨b, o, rfl⟩ := h2.addr (by rw [icells_length]; omega)
        have x0 : wr.cell? ⟨b, o + j, none⟩ = some (.int .i64 bs[j]) := h2.at (by simp [icells, hjl])
        have h2t : Cs wr (some ⟨b, o, none⟩) (icells (bs.take j)) := by
          have := h2.take j
          rwa [show (icells bs).take j = icells (bs.take j) by simp [icells, List.map_take]] at this
        have HT : Hid ((bs.take (j + 1)).map (kdAt kinds) = (bs.take j).map (kdAt kinds) ++ [kdAt kinds bs[j]]) := Lib.hid (by rw [List.take_succ_eq_append_getElem hjl, List.map_append]; rfl)
        have HBAD : Hid (isCol kn bs[j] = false ∨ bs[j] ∈ bs.take j → E = 1) := Lib.hid (fun hb => by rw [HE2.out, byB_bad hjl hb]; rfl)
        have HGOOD : Hid (isCol kn bs[j] = true → bs[j] ∉ bs.take j → byB kn (bs.take (j + 1)) = true) := Lib.hid (fun a b => byB_step hjl HB.out a b)
        have htl : (bs.take j).length = j := by rw [List.length_take]; omega
        have HC := Lib.hid (fun x => gcontains_any (some ⟨b, o, none⟩) j bc (bs.take j) x wr h2t htl (by omega) (by unfold maxLen; omega))
        have HI := Lib.hid (fun x => iscol_any x gb ka kn kc wr zb m1 (by unfold maxLen; omega))
        have hcl : isCol kn bs[j] = true → ∃ cc : Nat, bs[j] = (cc : Int) ∧ cc < kn := fun h => by
          unfold isCol at h
          rw [Bool.and_eq_true, decide_eq_true_eq, decide_eq_true_eq] at h
          exact ⟨bs[j].toNat, by omega, by omega⟩
        have HKC : Hid (∀ cc : Nat, cc < kn → ∃ kb ko, ka = some ⟨kb, ko, none⟩ ∧ wr.cell? ⟨kb, ko + cc, none⟩ = some (.int .u8 (((kdAt kinds cc).toNat : Nat) : Int))) := Lib.hid (fun cc hcc => by
          obtain ⟨kb, ko, rfl⟩ := h1.addr (by rw [bcells_length, HN.out.1]; omega)
          exact ⟨kb, ko, rfl, kcell h1 (by rw [HN.out.1]; exact hcc)⟩)
        have HCL := Lib.hid hcl
        have xl := lt_cell x0
        clear hcl htl h2 h1
        generalize bs[j] = x at x0 HT HBAD HGOOD HCL
        clear hjl
        cases hq : isCol kn x with
        | false =>
          have HE1 := Lib.hid (HBAD.out (.inl hq))
          have HI2 := Lib.hid (HI.out x)
          rw [hq] at HI2
          have bw := Own.below O
          clear HBAD HGOOD HC HI O zb HKC HCL h2t HT hq
          go_wp2_with (first | (at_make; refine Stop.un ?_) | (at_builtin; refine Stop.un ?_) | (with_reducible refine Stop.conv 22 9 ?_) | (with_reducible refine Stop.conv 9 22 ?_))
          refine HI2.out.mono ?_
          rintro e9 w9 ⟨rfl, rfl⟩
          clear HI2
          go_wp2_with (first | (at_make; refine Stop.un ?_) | (at_builtin; refine Stop.un ?_) | (with_reducible refine Stop.conv 22 9 ?_) | (with_reducible refine Stop.conv 9 22 ?_))
          exact bodyPost_ret (v := .tuple #[.slice none 0 0, .int .i64 1]) (by simp [results, Try.results19, go_sem]) rfl (HR1.out _ HE1.out bw)
        | true =>
          obtain ⟨cc, rfl, hcc⟩ := HCL.out hq
          obtain ⟨kb, ko, rfl, y0⟩ := HKC.out cc hcc
          have HI2 := Lib.hid (HI.out cc)
          rw [hq] at HI2
          have HC2 := Lib.hid (HC.out cc)
          by_cases hm : (cc : Int) ∈ bs.take j
          · have HE1 := Lib.hid (HBAD.out (.inr hm))
            rw [decide_eq_true hm] at HC2
            have bw := Own.below O
            clear HBAD HGOOD HC HI O zb hm HKC HCL h2t HT hq
            go_wp2_with (first | (at_make; refine Stop.un ?_) | (at_builtin; refine Stop.un ?_) | (with_reducible refine Stop.conv 22 9 ?_) | (with_reducible refine Stop.conv 9 22 ?_))
            refine HI2.out.mono ?_
            rintro e9 w9 ⟨rfl, rfl⟩
            clear HI2
            go_wp2_with (first | (at_make; refine Stop.un ?_) | (at_builtin; refine Stop.un ?_) | (with_reducible refine Stop.conv 22 9 ?_) | (with_reducible refine Stop.conv 9 22 ?_))
            refine HC2.out.mono ?_
            rintro e9 w9 ⟨rfl, rfl⟩
            clear HC2
            go_wp2_with (first | (at_make; refine Stop.un ?_) | (at_builtin; refine Stop.un ?_) | (with_reducible refine Stop.conv 22 9 ?_) | (with_reducible refine Stop.conv 9 22 ?_))
            exact bodyPost_ret (v := .tuple #[.slice none 0 0, .int .i64 1]) (by simp [results, Try.results19, go_sem]) rfl (HR1.out _ HE1.out bw)
          · have HB2 := Lib.hid (HGOOD.out hq hm)
            rw [decide_eq_false hm] at HC2
            have c0 := zb.cell 0 rfl
            clear HBAD HGOOD HC HI hm HKC HCL h2t hq
            go_wp2_with (first | (at_make; refine Stop.un ?_) | (at_builtin; refine Stop.un ?_) | (with_reducible refine Stop.conv 22 9 ?_) | (with_reducible refine Stop.conv 9 22 ?_))
            refine HI2.out.mono ?_
            rintro e9 w9 ⟨rfl, rfl⟩
            clear HI2
            go_wp2_with (first | (at_make; refine Stop.un ?_) | (at_builtin; refine Stop.un ?_) | (with_reducible refine Stop.conv 22 9 ?_) | (with_reducible refine Stop.conv 9 22 ?_))
            refine HC2.out.mono ?_
            rintro e9 w9 ⟨rfl, rfl⟩
            clear HC2
            go_wp2_with (first | (at_make; refine Stop.un ?_) | (at_builtin; refine Stop.un ?_) | (with_reducible refine Stop.conv 22 9 ?_) | (with_reducible refine Stop.conv 9 22 ?_))
            refine Stop.mk (app_k1 (u := kdAt kinds (cc : Int)) w _ _ rfl rfl O rfl rfl (by omega) ?_)
            intro a5 c5 w5 O5 g5 k5
            have zb5 := zb.grownK g5 hne
            have hne5 : (Value.slice a5 (j + 1) c5).ownBlock ≠ some gb := fun e => (k5 gb e).elim hne (fun h => by have := zb.lt; omega)
            rw [← HT.out] at O5
            clear O zb hne g5 k5 c0 y0 x0 xl HT
            go_wp2_with (first | (at_make; refine Stop.un ?_) | (at_builtin; refine Stop.un ?_) | (with_reducible refine Stop.conv 22 9 ?_) | (with_reducible refine Stop.conv 9 22 ?_))
            go_roundw
            case rel => exact ⟨j + 1, a5, c5, by omega, by go_num, rfl, O5, zb5, hne5, HB2⟩
            case measure => simp [intOf]; omega
      · obtain rfl : j = bn := by omega
        have htk : bs.take j = bs := List.take_of_length_le (by have := HN.out.2.1; omega)
        rw [htk] at O
        have HE3 : Hid (E = if ags.all (agB kn) = false then 1 else if ags.any (agT kinds) = true then 7 else 0) := Lib.hid (by
          have h1 := HB.out
          rw [htk] at h1
          rw [HE2.out, h1]; rfl)
        clear HB htk HE2
        have HOUT : Hid (bs.map (kdAt kinds) = bs.map (kdAt kinds) ++ (ags.take 0).map (agK kinds)) := Lib.hid (by simp)
        have O0 : OwnB w wr (.slice ab (j + 0) cb) (j + 0) (bs.map (kdAt kinds) ++ (ags.take 0).map (agK kinds)) := by rw [← HOUT.out]; exact O
        clear O HOUT hlt
        go_wp2_with (first | (at_make; refine Stop.un ?_) | (at_builtin; refine Stop.un ?_) | (with_reducible refine Stop.conv 22 9 ?_) | (with_reducible refine Stop.conv 9 22 ?_))
        go_loopw [51, 12, 9] (fun iv ev ov wr => ∃ (i : Nat) (er : Int) (ab : Option Addr) (cb : Nat), i ≤ gn ∧ iv = .int .i64 (i : Int) ∧ ev = .int .i64 er ∧ ov = .slice ab (j + i) cb ∧ OwnB w wr (.slice ab (j + i) cb) (j + i) (bs.map (kdAt kinds) ++ (ags.take i).map (agK kinds)) ∧ At wr gb #[.slice ka kn kc] 22 ∧ (Value.slice ab (j + i) cb).ownBlock ≠ some gb ∧ Hid ((ags.take i).all (agB kn) = true) ∧ Hid (er = if (ags.take i).any (agT kinds) = true then 7 else 0)) (fun iv _ _ _ => gn - (intOf iv).toNat)
        case atStart => exact ⟨0, 0, ab, cb, Nat.zero_le _, rfl, rfl, rfl, O0, zb, hne, Lib.hid rfl, Lib.hid rfl⟩
        case round =>
          clear O0 zb hne
          obtain ⟨i, er, ab, cb, hi, rfl, rfl, rfl, O, zb, hne, HB, HER⟩ := hrel
          by_cases hlt : i < gn
          · have hil : i < ags.length := by have := HN.out.2.2; omega
            have bb := Own.below O
            have h3 := HTT.out.2.2.mono bb (Nat.le_refl _)
            have h1 := HTT.out.1.mono bb (Nat.le_refl _)
            obtain ⟨b, o, rfl⟩ := h3.addr (by rw [agcells_length]; omega)
            obtain ⟨x0, x1⟩ := h3.agat hil
            have HT : Hid ((ags.take (i + 1)).map (agK kinds) = (ags.take i).map (agK kinds) ++ [agK kinds ags[i]]) := Lib.hid (by rw [List.take_succ_eq_append_getElem hil, List.map_append]; rfl)
            have HBAD : Hid (agB kn ags[i] = false → E = 1) := Lib.hid (fun hb => by
              have : ags.all (agB kn) = false := by
                rw [List.all_eq_false]
                exact ⟨ags[i], List.getElem_mem _, by rw [hb]; decide⟩
              rw [HE3.out, this]; rfl)
            have HGOOD : Hid (agB kn ags[i] = true → (ags.take (i + 1)).all (agB kn) = true) := Lib.hid (fun h => by
              rw [List.take_succ_eq_append_getElem hil, List.all_append, HB.out]; simp [h])
            have HER2 : Hid (∀ e2 : Int, (e2 = if agT kinds ags[i] = true then 7 else er) → e2 = if (ags.take (i + 1)).any (agT kinds) = true then 7 else 0) := Lib.hid (fun e2 he => by
              rw [he, HER.out, List.take_succ_eq_append_getElem hil, List.any_append]
              cases h1 : agT kinds ags[i] <;> cases h2 : (ags.take i).any (agT kinds) <;> simp [h1])
            have HKC : Hid (∀ cc : Nat, cc < kn → ∃ kb ko, ka = some ⟨kb, ko, none⟩ ∧ wr.cell? ⟨kb, ko + cc, none⟩ = some (.int .u8 (((kdAt kinds cc).toNat : Nat) : Int))) := Lib.hid (fun cc hcc => by
              obtain ⟨kb, ko, rfl⟩ := h1.addr (by rw [bcells_length, HN.out.1]; omega)
              exact ⟨kb, ko, rfl, kcell h1 (by rw [HN.out.1]; exact hcc)⟩)
            have xl := lt_cell x0
            clear h3 h1
            generalize ags[i] = x at x0 x1 HT HBAD HGOOD HER2
            clear hil
            obtain ⟨op, col⟩ := x
            simp only at x0 x1
            have zx := At.new wr #[.int .u8 op, .int .i64 col] 34
            have zb2 := zb.alloc (.cells #[.int .u8 op, .int .i64 col] 34)
            have OA := Own.alloc O (.cells #[.int .u8 op, .int .i64 col] 34)
            have HKC2 : Hid (∀ cc : Nat, cc < kn → ∃ kb ko, ka = some ⟨kb, ko, none⟩ ∧ (wr.alloc (.cells #[.int .u8 op, .int .i64 col] 34)).cell? ⟨kb, ko + cc, none⟩ = some (.int .u8 (((kdAt kinds cc).toNat : Nat) : Int))) := Lib.hid (fun cc hcc => by
              obtain ⟨kb, ko, e, h⟩ := HKC.out cc hcc
              exact ⟨kb, ko, e, Ext.cell ((Below.refl wr.heap.size wr).alloc (Nat.le_refl _) _) h⟩)
            clear bb HKC
            go_upto_region 16 with fail
            generalize wr.alloc (.cells #[.int .u8 op, .int .i64 col] 34) = wA at zx zb2 OA HKC2 ⊢
            generalize wr.heap.size = gx at zx ⊢
            clear O zb x0 x1 xl
            by_cases o1 : op = 1
            ·
              subst o1
              by_cases c0 : col = 0
              ·
                subst c0
                have HG2 := Lib.hid (HGOOD.out (by rfl))
                have HAK : Hid (agK kinds ⟨1, 0⟩ = 2) := Lib.hid (by rfl)
                have HER3 := Lib.hid (HER2.out er (by rw [show agT kinds ⟨1, 0⟩ = false from by rfl]; rfl))
                have d0 := zx.cell 0 rfl
                have d1 := zx.cell 1 rfl
                have d2 := zb2.cell 0 rfl
                clear HBAD HGOOD HER2 HKC2
                go_wp2_with (first | (at_make; refine Stop.un ?_) | (at_builtin; refine Stop.un ?_) | (with_reducible refine Stop.conv 22 9 ?_) | (with_reducible refine Stop.conv 9 22 ?_))
                refine Stop.mk (app_k2 (u := 2) w _ _ rfl rfl OA rfl rfl rfl (by omega) ?_)
                intro a5 c5 w5 O5 g5 k5
                have zb5 := zb2.grownK g5 hne
                have hne5 : (Value.slice a5 (j + i + 1) c5).ownBlock ≠ some gb := fun e => (k5 gb e).elim hne (fun h => by have := zb2.lt; omega)
                rw [List.append_assoc, ← HAK.out, ← HT.out] at O5
                clear OA zb2 hne g5 k5 d0 d1 d2 zx HT HAK
                go_wp2_with (first | (at_make; refine Stop.un ?_) | (at_builtin; refine Stop.un ?_) | (with_reducible refine Stop.conv 22 9 ?_) | (with_reducible refine Stop.conv 9 22 ?_))
                go_roundw
                case rel => exact ⟨i + 1, _, a5, c5, by omega, by go_num, rfl, rfl, O5, zb5, hne5, HG2, HER3⟩
                case measure => simp [intOf]; omega
              ·
                have HE1 := Lib.hid (HBAD.out (by unfold agB; rw [if_pos rfl]; exact decide_eq_false c0))
                have bw := Own.below OA
                have hc0 : (col != 0) = true := by simpa using c0
                clear c0
                have d0 := zx.cell 0 rfl
                have d1 := zx.cell 1 rfl
                clear HBAD HGOOD HER2 HKC2 OA zb2 HT zx hne
                go_wp2_with (first | (at_make; refine Stop.un ?_) | (at_builtin; refine Stop.un ?_) | (with_reducible refine Stop.conv 22 9 ?_) | (with_reducible refine Stop.conv 9 22 ?_))
                exact bodyPost_ret (v := .tuple #[.slice none 0 0, .int .i64 1]) (by simp [results, Try.results19, go_sem]) rfl (HR1.out _ HE1.out bw)
            ·
              by_cases o2 : 2 ≤ op ∧ op ≤ 5
              ·
                cases hq : isCol kn col with
                | false =>
                  have o4 : op = 2 ∨ op = 3 ∨ op = 4 ∨ op = 5 := by omega
                  clear o1 o2
                  rcases o4 with rfl | rfl | rfl | rfl
                  ·
                    have HE1 := Lib.hid (HBAD.out (by unfold agB; rw [if_neg (show ¬ ((2 : Int) = 1) by decide), hq]; rfl))
                    have bw := Own.below OA
                    have d0 := zx.cell 0 rfl
                    have d1 := zx.cell 1 rfl
                    have HI := iscol_any col gb ka kn kc wA zb2 m1 (by unfold maxLen; omega)
                    rw [hq] at HI
                    have HI2 := Lib.hid HI
                    clear HI hq
                    clear HBAD HGOOD HER2 HKC2 OA zb2 HT zx hne
                    go_wp2_with (first | (at_make; refine Stop.un ?_) | (at_builtin; refine Stop.un ?_) | (with_reducible refine Stop.conv 22 9 ?_) | (with_reducible refine Stop.conv 9 22 ?_))
                    refine HI2.out.mono ?_
                    rintro e9 w9 ⟨rfl, rfl⟩
                    clear HI2
                    go_wp2_with (first | (at_make; refine Stop.un ?_) | (at_builtin; refine Stop.un ?_) | (with_reducible refine Stop.conv 22 9 ?_) | (with_reducible refine Stop.conv 9 22 ?_))
                    exact bodyPost_ret (v := .tuple #[.slice none 0 0, .int .i64 1]) (by simp [results, Try.results19, go_sem]) rfl (HR1.out _ HE1.out bw)
                  ·
                    have HE1 := Lib.hid (HBAD.out (by unfold agB; rw [if_neg (show ¬ ((3 : Int) = 1) by decide), hq]; rfl))
                    have bw := Own.below OA
                    have d0 := zx.cell 0 rfl
                    have d1 := zx.cell 1 rfl
                    have HI := iscol_any col gb ka kn kc wA zb2 m1 (by unfold maxLen; omega)
                    rw [hq] at HI
                    have HI2 := Lib.hid HI
                    clear HI hq
                    clear HBAD HGOOD HER2 HKC2 OA zb2 HT zx hne
                    go_wp2_with (first | (at_make; refine Stop.un ?_) | (at_builtin; refine Stop.un ?_) | (with_reducible refine Stop.conv 22 9 ?_) | (with_reducible refine Stop.conv 9 22 ?_))
                    refine HI2.out.mono ?_
                    rintro e9 w9 ⟨rfl, rfl⟩
                    clear HI2
                    go_wp2_with (first | (at_make; refine Stop.un ?_) | (at_builtin; refine Stop.un ?_) | (with_reducible refine Stop.conv 22 9 ?_) | (with_reducible refine Stop.conv 9 22 ?_))
                    exact bodyPost_ret (v := .tuple #[.slice none 0 0, .int .i64 1]) (by simp [results, Try.results19, go_sem]) rfl (HR1.out _ HE1.out bw)
                  ·
                    have HE1 := Lib.hid (HBAD.out (by unfold agB; rw [if_neg (show ¬ ((4 : Int) = 1) by decide), hq]; rfl))
                    have bw := Own.below OA
                    have d0 := zx.cell 0 rfl
                    have d1 := zx.cell 1 rfl
                    have HI := iscol_any col gb ka kn kc wA zb2 m1 (by unfold maxLen; omega)
                    rw [hq] at HI
                    have HI2 := Lib.hid HI
                    clear HI hq
                    clear HBAD HGOOD HER2 HKC2 OA zb2 HT zx hne
                    go_wp2_with (first | (at_make; refine Stop.un ?_) | (at_builtin; refine Stop.un ?_) | (with_reducible refine Stop.conv 22 9 ?_) | (with_reducible refine Stop.conv 9 22 ?_))
                    refine HI2.out.mono ?_
                    rintro e9 w9 ⟨rfl, rfl⟩
                    clear HI2
                    go_wp2_with (first | (at_make; refine Stop.un ?_) | (at_builtin; refine Stop.un ?_) | (with_reducible refine Stop.conv 22 9 ?_) | (with_reducible refine Stop.conv 9 22 ?_))
                    exact bodyPost_ret (v := .tuple #[.slice none 0 0, .int .i64 1]) (by simp [results, Try.results19, go_sem]) rfl (HR1.out _ HE1.out bw)
                  ·
                    have HE1 := Lib.hid (HBAD.out (by unfold agB; rw [if_neg (show ¬ ((5 : Int) = 1) by decide), hq]; rfl))
                    have bw := Own.below OA
                    have d0 := zx.cell 0 rfl
                    have d1 := zx.cell 1 rfl
                    have HI := iscol_any col gb ka kn kc wA zb2 m1 (by unfold maxLen; omega)
                    rw [hq] at HI
                    have HI2 := Lib.hid HI
                    clear HI hq
                    clear HBAD HGOOD HER2 HKC2 OA zb2 HT zx hne
                    go_wp2_with (first | (at_make; refine Stop.un ?_) | (at_builtin; refine Stop.un ?_) | (with_reducible refine Stop.conv 22 9 ?_) | (with_reducible refine Stop.conv 9 22 ?_))
                    refine HI2.out.mono ?_
                    rintro e9 w9 ⟨rfl, rfl⟩
                    clear HI2
                    go_wp2_with (first | (at_make; refine Stop.un ?_) | (at_builtin; refine Stop.un ?_) | (with_reducible refine Stop.conv 22 9 ?_) | (with_reducible refine Stop.conv 9 22 ?_))
                    exact bodyPost_ret (v := .tuple #[.slice none 0 0, .int .i64 1]) (by simp [results, Try.results19, go_sem]) rfl (HR1.out _ HE1.out bw)
                | true =>
                  have hcl : ∃ cc : Nat, col = (cc : Int) ∧ cc < kn := by
                    unfold isCol at hq
                    rw [Bool.and_eq_true, decide_eq_true_eq, decide_eq_true_eq] at hq
                    exact ⟨col.toNat, by omega, by omega⟩
                  obtain ⟨cc, rfl, hcc⟩ := hcl
                  obtain ⟨kb, ko, rfl, y0⟩ := HKC2.out cc hcc
                  have o4 : op = 2 ∨ op = 3 ∨ op = 4 ∨ op = 5 := by omega
                  clear o1 o2
                  rcases o4 with rfl | rfl | rfl | rfl
                  ·
                    have HG2 := Lib.hid (HGOOD.out (by unfold agB; rw [if_neg (show ¬ ((2 : Int) = 1) by decide), hq]; rfl))
                    have HAK : Hid (agK kinds ⟨2, (cc : Int)⟩ = 2) := Lib.hid (by rfl)
                    have HER3 := Lib.hid (HER2.out er (by rw [show agT kinds ⟨2, (cc : Int)⟩ = false from by rfl]; rfl))
                    have d0 := zx.cell 0 rfl
                    have d1 := zx.cell 1 rfl
                    have d2 := zb2.cell 0 rfl
                    have HI := iscol_any (cc : Int) gb _ kn kc wA zb2 m1 (by unfold maxLen; omega)
                    rw [hq] at HI
                    have HI2 := Lib.hid HI
                    clear HI hq
                    clear HBAD HGOOD HER2 HKC2
                    go_wp2_with (first | (at_make; refine Stop.un ?_) | (at_builtin; refine Stop.un ?_) | (with_reducible refine Stop.conv 22 9 ?_) | (with_reducible refine Stop.conv 9 22 ?_))
                    refine HI2.out.mono ?_
                    rintro e9 w9 ⟨rfl, rfl⟩
                    clear HI2
                    go_wp2_with (first | (at_make; refine Stop.un ?_) | (at_builtin; refine Stop.un ?_) | (with_reducible refine Stop.conv 22 9 ?_) | (with_reducible refine Stop.conv 9 22 ?_))
                    refine Stop.mk (app_k2 (u := 2) w _ _ rfl rfl OA rfl rfl rfl (by omega) ?_)
                    intro a5 c5 w5 O5 g5 k5
                    have zb5 := zb2.grownK g5 hne
                    have hne5 : (Value.slice a5 (j + i + 1) c5).ownBlock ≠ some gb := fun e => (k5 gb e).elim hne (fun h => by have := zb2.lt; omega)
                    rw [List.append_assoc, ← HAK.out, ← HT.out] at O5
                    clear OA zb2 hne g5 k5 d0 d1 d2 zx HT HAK y0
                    go_wp2_with (first | (at_make; refine Stop.un ?_) | (at_builtin; refine Stop.un ?_) | (with_reducible refine Stop.conv 22 9 ?_) | (with_reducible refine Stop.conv 9 22 ?_))
                    go_roundw
                    case rel => exact ⟨i + 1, _, a5, c5, by omega, by go_num, rfl, rfl, O5, zb5, hne5, HG2, HER3⟩
                    case measure => simp [intOf]; omega
                  ·
                    by_cases hu : kdAt kinds (cc : Int) = 2
                    ·
                      have HG2 := Lib.hid (HGOOD.out (by unfold agB; rw [if_neg (show ¬ ((3 : Int) = 1) by decide), hq]; rfl))
                      have HAK : Hid (agK kinds ⟨3, (cc : Int)⟩ = 2) := Lib.hid (by rfl)
                      have HER3 := Lib.hid (HER2.out er (by rw [show agT kinds ⟨3, (cc : Int)⟩ = false from by unfold agT; rw [hu]; rfl]; rfl))
                      have hub : (((kdAt kinds (cc : Int)).toNat : Int) != 2) = false := by rw [hu]; rfl
                      clear hu
                      have d0 := zx.cell 0 rfl
                      have d1 := zx.cell 1 rfl
                      have d2 := zb2.cell 0 rfl
                      have HI := iscol_any (cc : Int) gb _ kn kc wA zb2 m1 (by unfold maxLen; omega)
                      rw [hq] at HI
                      have HI2 := Lib.hid HI
                      clear HI hq
                      clear HBAD HGOOD HER2 HKC2
                      go_wp2_with (first | (at_make; refine Stop.un ?_) | (at_builtin; refine Stop.un ?_) | (with_reducible refine Stop.conv 22 9 ?_) | (with_reducible refine Stop.conv 9 22 ?_))
                      refine HI2.out.mono ?_
                      rintro e9 w9 ⟨rfl, rfl⟩
                      clear HI2
                      go_wp2_with (first | (at_make; refine Stop.un ?_) | (at_builtin; refine Stop.un ?_) | (with_reducible refine Stop.conv 22 9 ?_) | (with_reducible refine Stop.conv 9 22 ?_))
                      refine Stop.mk (app_k2 (u := 2) w _ _ rfl rfl OA rfl rfl rfl (by omega) ?_)
                      intro a5 c5 w5 O5 g5 k5
                      have zb5 := zb2.grownK g5 hne
                      have hne5 : (Value.slice a5 (j + i + 1) c5).ownBlock ≠ some gb := fun e => (k5 gb e).elim hne (fun h => by have := zb2.lt; omega)
                      rw [List.append_assoc, ← HAK.out, ← HT.out] at O5
                      clear OA zb2 hne g5 k5 d0 d1 d2 zx HT HAK y0
                      go_wp2_with (first | (at_make; refine Stop.un ?_) | (at_builtin; refine Stop.un ?_) | (with_reducible refine Stop.conv 22 9 ?_) | (with_reducible refine Stop.conv 9 22 ?_))
                      go_roundw
                      case rel => exact ⟨i + 1, _, a5, c5, by omega, by go_num, rfl, rfl, O5, zb5, hne5, HG2, HER3⟩
                      case measure => simp [intOf]; omega
                    ·
                      have HG2 := Lib.hid (HGOOD.out (by unfold agB; rw [if_neg (show ¬ ((3 : Int) = 1) by decide), hq]; rfl))
                      have HAK : Hid (agK kinds ⟨3, (cc : Int)⟩ = 2) := Lib.hid (by rfl)
                      have HER3 := Lib.hid (HER2.out 7 (by rw [show agT kinds ⟨3, (cc : Int)⟩ = true from by unfold agT; rw [decide_eq_false hu]; rfl]; rfl))
                      have hub : (((kdAt kinds (cc : Int)).toNat : Int) != 2) = true := by
                        have h1 : (kdAt kinds (cc : Int)).toNat ≠ 2 := fun e => hu (UInt8.toNat_inj.1 e)
                        simp
                        omega
                      clear hu
                      have d0 := zx.cell 0 rfl
                      have d1 := zx.cell 1 rfl
                      have d2 := zb2.cell 0 rfl
                      have HI := iscol_any (cc : Int) gb _ kn kc wA zb2 m1 (by unfold maxLen; omega)
                      rw [hq] at HI
                      have HI2 := Lib.hid HI
                      clear HI hq
                      clear HBAD HGOOD HER2 HKC2
                      go_wp2_with (first | (at_make; refine Stop.un ?_) | (at_builtin; refine Stop.un ?_) | (with_reducible refine Stop.conv 22 9 ?_) | (with_reducible refine Stop.conv 9 22 ?_))
                      refine HI2.out.mono ?_
                      rintro e9 w9 ⟨rfl, rfl⟩
                      clear HI2
                      go_wp2_with (first | (at_make; refine Stop.un ?_) | (at_builtin; refine Stop.un ?_) | (with_reducible refine Stop.conv 22 9 ?_) | (with_reducible refine Stop.conv 9 22 ?_))
                      refine Stop.mk (app_k2 (u := 2) w _ _ rfl rfl OA rfl rfl rfl (by omega) ?_)
                      intro a5 c5 w5 O5 g5 k5
                      have zb5 := zb2.grownK g5 hne
                      have hne5 : (Value.slice a5 (j + i + 1) c5).ownBlock ≠ some gb := fun e => (k5 gb e).elim hne (fun h => by have := zb2.lt; omega)
                      rw [List.append_assoc, ← HAK.out, ← HT.out] at O5
                      clear OA zb2 hne g5 k5 d0 d1 d2 zx HT HAK y0
                      go_wp2_with (first | (at_make; refine Stop.un ?_) | (at_builtin; refine Stop.un ?_) | (with_reducible refine Stop.conv 22 9 ?_) | (with_reducible refine Stop.conv 9 22 ?_))
                      go_roundw
                      case rel => exact ⟨i + 1, _, a5, c5, by omega, by go_num, rfl, rfl, O5, zb5, hne5, HG2, HER3⟩
                      case measure => simp [intOf]; omega
                  ·
                    have HG2 := Lib.hid (HGOOD.out (by unfold agB; rw [if_neg (show ¬ ((4 : Int) = 1) by decide), hq]; rfl))
                    have HAK : Hid (agK kinds ⟨4, (cc : Int)⟩ = kdAt kinds (cc : Int)) := Lib.hid (by rfl)
                    have HER3 := Lib.hid (HER2.out er (by rw [show agT kinds ⟨4, (cc : Int)⟩ = false from by rfl]; rfl))
                    have d0 := zx.cell 0 rfl
                    have d1 := zx.cell 1 rfl
                    have d2 := zb2.cell 0 rfl
                    have HI := iscol_any (cc : Int) gb _ kn kc wA zb2 m1 (by unfold maxLen; omega)
                    rw [hq] at HI
                    have HI2 := Lib.hid HI
                    clear HI hq
                    clear HBAD HGOOD HER2 HKC2
                    go_wp2_with (first | (at_make; refine Stop.un ?_) | (at_builtin; refine Stop.un ?_) | (with_reducible refine Stop.conv 22 9 ?_) | (with_reducible refine Stop.conv 9 22 ?_))
                    refine HI2.out.mono ?_
                    rintro e9 w9 ⟨rfl, rfl⟩
                    clear HI2
                    go_wp2_with (first | (at_make; refine Stop.un ?_) | (at_builtin; refine Stop.un ?_) | (with_reducible refine Stop.conv 22 9 ?_) | (with_reducible refine Stop.conv 9 22 ?_))
                    refine Stop.mk (app_k2 (u := kdAt kinds (cc : Int)) w _ _ rfl rfl OA rfl rfl rfl (by omega) ?_)
                    intro a5 c5 w5 O5 g5 k5
                    have zb5 := zb2.grownK g5 hne
                    have hne5 : (Value.slice a5 (j + i + 1) c5).ownBlock ≠ some gb := fun e => (k5 gb e).elim hne (fun h => by have := zb2.lt; omega)
                    rw [List.append_assoc, ← HAK.out, ← HT.out] at O5
                    clear OA zb2 hne g5 k5 d0 d1 d2 zx HT HAK y0
                    go_wp2_with (first | (at_make; refine Stop.un ?_) | (at_builtin; refine Stop.un ?_) | (with_reducible refine Stop.conv 22 9 ?_) | (with_reducible refine Stop.conv 9 22 ?_))
                    go_roundw
                    case rel => exact ⟨i + 1, _, a5, c5, by omega, by go_num, rfl, rfl, O5, zb5, hne5, HG2, HER3⟩
                    case measure => simp [intOf]; omega
                  ·
                    have HG2 := Lib.hid (HGOOD.out (by unfold agB; rw [if_neg (show ¬ ((5 : Int) = 1) by decide), hq]; rfl))
                    have HAK : Hid (agK kinds ⟨5, (cc : Int)⟩ = kdAt kinds (cc : Int)) := Lib.hid (by rfl)
                    have HER3 := Lib.hid (HER2.out er (by rw [show agT kinds ⟨5, (cc : Int)⟩ = false from by rfl]; rfl))
                    have d0 := zx.cell 0 rfl
                    have d1 := zx.cell 1 rfl
                    have d2 := zb2.cell 0 rfl
                    have HI := iscol_any (cc : Int) gb _ kn kc wA zb2 m1 (by unfold maxLen; omega)
                    rw [hq] at HI
                    have HI2 := Lib.hid HI
                    clear HI hq
                    clear HBAD HGOOD HER2 HKC2
                    go_wp2_with (first | (at_make; refine Stop.un ?_) | (at_builtin; refine Stop.un ?_) | (with_reducible refine Stop.conv 22 9 ?_) | (with_reducible refine Stop.conv 9 22 ?_))
                    refine HI2.out.mono ?_
                    rintro e9 w9 ⟨rfl, rfl⟩
                    clear HI2
                    go_wp2_with (first | (at_make; refine Stop.un ?_) | (at_builtin; refine Stop.un ?_) | (with_reducible refine Stop.conv 22 9 ?_) | (with_reducible refine Stop.conv 9 22 ?_))
                    refine Stop.mk (app_k2 (u := kdAt kinds (cc : Int)) w _ _ rfl rfl OA rfl rfl rfl (by omega) ?_)
                    intro a5 c5 w5 O5 g5 k5
                    have zb5 := zb2.grownK g5 hne
                    have hne5 : (Value.slice a5 (j + i + 1) c5).ownBlock ≠ some gb := fun e => (k5 gb e).elim hne (fun h => by have := zb2.lt; omega)
                    rw [List.append_assoc, ← HAK.out, ← HT.out] at O5
                    clear OA zb2 hne g5 k5 d0 d1 d2 zx HT HAK y0
                    go_wp2_with (first | (at_make; refine Stop.un ?_) | (at_builtin; refine Stop.un ?_) | (with_reducible refine Stop.conv 22 9 ?_) | (with_reducible refine Stop.conv 9 22 ?_))
                    go_roundw
                    case rel => exact ⟨i + 1, _, a5, c5, by omega, by go_num, rfl, rfl, O5, zb5, hne5, HG2, HER3⟩
                    case measure => simp [intOf]; omega
              ·
                have q1 : (op == 1) = false := by simpa using o1
                have q2 : (op == 2) = false := by simp; omega
                have q3 : (op == 3) = false := by simp; omega
                have q4 : (op == 4) = false := by simp; omega
                have q5 : (op == 5) = false := by simp; omega
                have HE1 := Lib.hid (HBAD.out (by unfold agB; rw [if_neg o1]; by_cases h2 : 2 ≤ op <;> simp [h2]; intro h; omega))
                have bw := Own.below OA
                clear o1 o2
                have d0 := zx.cell 0 rfl
                have d1 := zx.cell 1 rfl
                clear HBAD HGOOD HER2 HKC2 OA zb2 HT zx hne
                go_wp2_with (first | (at_make; refine Stop.un ?_) | (at_builtin; refine Stop.un ?_) | (with_reducible refine Stop.conv 22 9 ?_) | (with_reducible refine Stop.conv 9 22 ?_))
                exact bodyPost_ret (v := .tuple #[.slice none 0 0, .int .i64 1]) (by simp [results, Try.results19, go_sem]) rfl (HR1.out _ HE1.out bw)
          · obtain rfl : i = gn := by omega
            have htk : ags.take i = ags := List.take_of_length_le (by have := HN.out.2.2; omega)
            rw [htk] at O
            have HE4 : Hid (E = er) := Lib.hid (by
              have h1 := HB.out
              have h2 := HER.out
              rw [htk] at h1 h2
              rw [HE3.out, h1, h2]; rfl)
            have HER5 : Hid (er = 0 ∨ er = 7) := Lib.hid (by rw [HER.out]; split <;> simp)
            have HRA : Hid (E = 0 → OwnB w wr (.slice ab (j + i) cb) (j + i) (kR E (kindsL kinds bs ags))) := Lib.hid (fun h => by rw [h]; exact O)
            have bw := Own.below O
            clear HB htk HE3 HER O zb hne hlt
            rcases HER5.out with rfl | rfl
            · go_wp2_with (first | (at_make; refine Stop.un ?_) | (at_builtin; refine Stop.un ?_) | (with_reducible refine Stop.conv 22 9 ?_) | (with_reducible refine Stop.conv 9 22 ?_))
              exact bodyPost_ret (v := .tuple #[.slice ab (j + i) cb, .int .i64 0]) (by simp [results, Try.results19, go_sem]) rfl ⟨ab, j + i, cb, by rw [HE4.out], HRA.out HE4.out⟩
            · go_wp2_with (first | (at_make; refine Stop.un ?_) | (at_builtin; refine Stop.un ?_) | (with_reducible refine Stop.conv 22 9 ?_) | (with_reducible refine Stop.conv 9 22 ?_))
              exact bodyPost_ret (v := .tuple #[.slice none 0 0, .int .i64 7]) (by simp [results, Try.results19, go_sem]) rfl ⟨none, 0, 0, by rw [HE4.out], by rw [HE4.out]; exact Own.nil _ _ bw⟩
/-! Is a row one of columns of some kinds? -/
def fitV (u : UInt8) (v : V) : Bool := rightB v && (decide (v.k = 0) || decide (v.k = ((u.toNat : Nat) : Int)))
def fitL : List UInt8 → List V → Bool
  | [], [] => true
  | u :: ks, v :: l => fitV u v && fitL ks l
  | _, _ => false
theorem fitL_len : ∀ (ks : List UInt8) (l : List V), fitL ks l = true → l.length = ks.length
  | [], [], _ => rfl
  | [], _ :: _, h => by simp [fitL] at h
  | _ :: _, [], h => by simp [fitL] at h
  | u :: ks, v :: l, h => by
    simp only [fitL, Bool.and_eq_true] at h
    rw [List.length_cons, List.length_cons, fitL_len ks l h.2]
set_option maxRecDepth 100000 in
set_option maxHeartbeats 8000000 in
theorem gfits_any (ka : Option Addr) (kn kc : Nat) (kinds : List UInt8) (r : Rw) (w : World)
    (h1 : Cs w ka (bcells kinds)) (e1 : kinds.length = kn) (m1 : kn ≤ kc) (c1 : kc ≤ maxLen) (h2 : RowOk w r) :
    Calls Try.prog 25 #[.slice ka kn kc, .slice r.a r.n r.cap] w (fun e w' => e = .returned (.bool (fitL kinds r.l)) ∧ Below w.heap.size w w') := by
  unfold maxLen at c1
  obtain ⟨ra, rn, rc, l⟩ := r
  have hle : rn ≤ rc := h2.le
  have hmx : rc ≤ 9223372036854775807 := h2.max
  have hl : l.length = rn := h2.len
  have hcs := h2.cs
  simp only at hcs
  obtain ⟨q, hq⟩ : ∃ q, fitL kinds l = q := ⟨_, rfl⟩
  rw [hq]
  have HQ := Lib.hid hq
  have HN := Lib.hid (And.intro e1 hl)
  clear h2 hq
  by_cases hn : rn = kn
  · have hnb : ((rn : Int) != (kn : Int)) = false := by simp [hn]
    have HTT := Lib.hid (And.intro h1 hcs)
    subst hn
    clear h1 hcs e1 hl
    go_enter Try.func25, Try.ntmps25
    go_wp2_with (first | (at_make; refine Stop.un ?_) | (at_builtin; refine Stop.un ?_) | (with_reducible refine Stop.conv 22 9 ?_) | (with_reducible refine Stop.conv 9 22 ?_))
    go_loopw [14] (fun iv wr => ∃ i : Nat, i ≤ rn ∧ iv = .int .i64 (i : Int) ∧ Below w.heap.size w wr ∧ Hid (q = fitL (kinds.drop i) (l.drop i))) (fun iv _ => rn - (intOf iv).toNat)
    case atStart => exact ⟨0, Nat.zero_le _, rfl, Below.refl _ _, Lib.hid HQ.out.symm⟩
    case round =>
      obtain ⟨i, hi, rfl, bw, HD⟩ := hrel
      by_cases hlt : i < rn
      · have hil : i < l.length := by have := HN.out.2; omega
        have hik : i < kinds.length := by have := HN.out.1; omega
        have hv := HTT.out.2.mono bw (Nat.le_refl _)
        have hk := HTT.out.1.mono bw (Nat.le_refl _)
        obtain ⟨vb, vo, rfl⟩ := hv.addr (by rw [vcells_length]; omega)
        obtain ⟨kb, ko, rfl⟩ := hk.addr (by rw [bcells_length]; omega)
        obtain ⟨q0, q1, q2⟩ := hv.vat hil
        have y0 : wr.cell? ⟨kb, ko + i, none⟩ = some (.int .u8 ((kinds[i].toNat : Nat) : Int)) := hk.at (bcells_get _ _ hik)
        have HD2 : Hid (q = (fitV kinds[i] l[i] && fitL (kinds.drop (i + 1)) (l.drop (i + 1)))) := Lib.hid (by
          rw [HD.out, List.drop_eq_getElem_cons hil, List.drop_eq_getElem_cons hik]; rfl)
        generalize kinds[i] = u at y0 HD2
        generalize l[i] = v at q0 q1 q2 HD2
        obtain ⟨k, n, s⟩ := v
        simp only at q0 q1 q2
        clear hil hik hv hk HD
        have zv := At.new wr #[.int .u8 k, .int .i64 n, .string s] 38
        have bA := bw.alloc bw.size (.cells #[.int .u8 k, .int .i64 n, .string s] 38)
        have y1 := Ext.cell ((Below.refl wr.heap.size wr).alloc (Nat.le_refl _) (.cells #[.int .u8 k, .int .i64 n, .string s] 38)) y0
        go_upto_region 6 with fail
        generalize wr.alloc (.cells #[.int .u8 k, .int .i64 n, .string s] 38) = wA at zv bA y1 ⊢
        generalize wr.heap.size = gv at zv ⊢
        clear q0 q1 q2 y0 bw
        have hun : ((u.toNat : Nat) : Int) ≤ 255 := by have := u.toNat_lt; omega
        have HU : Hid (fitV u ⟨k, n, s⟩ = (rightB ⟨k, n, s⟩ && (decide (k = 0) || decide (k = ((u.toNat : Nat) : Int))))) := Lib.hid rfl
        generalize ((u.toNat : Nat) : Int) = ui at y1 HU hun
        have HRT := Lib.hid (fun W => right_x k n s W)
        cases hR : rightB ⟨k, n, s⟩ with
        | false =>
          rw [hR] at HRT
          have hqf := HD2.out
          rw [HU.out, hR] at hqf
          obtain rfl : q = false := hqf
          clear HD2 HU hR
          refine mix_startE 17 rfl (by kernel_rfl) ?_
          intro xq hxq
          replace zv := At.mono zv hxq
          replace bA := Below.next bA hxq
          replace y1 := Ext.cell hxq y1
          clear hxq
          refine mix_quiet Keeps.ext 0 rfl (by kernel_rfl) rfl ?_
          intro ι U hne hU
          have hcw0 := fun ii => (hU ii).cell y1
          have hcw1 := fun ii => (At.mono zv (hU ii)).cell 0 rfl
          have hcw2 := fun ii => (At.mono zv (hU ii)).cell 1 rfl
          have hcw3 := fun ii => (At.mono zv (hU ii)).cell 2 rfl
          go_big_quiet_op
          clear hU hne hcw0 hcw1 hcw2 hcw3 U ι
          show wpAnyM _ _ _ _ _ _ _ _ _
          refine mix_any 1 rfl (by kernel_rfl) rfl ?_
          go_wp2_with (first | (at_make; refine Stop.un ?_) | (at_builtin; refine Stop.un ?_) | (with_reducible refine Stop.conv 22 9 ?_) | (with_reducible refine Stop.conv 9 22 ?_))
          refine (HRT.out _).mono ?_
          rintro e wq1 ⟨rfl, bq1⟩
          go_wp2_with (first | (at_make; refine Stop.un ?_) | (at_builtin; refine Stop.un ?_) | (with_reducible refine Stop.conv 22 9 ?_) | (with_reducible refine Stop.conv 9 22 ?_))
          refine MixPost.mk bq1 ?_
          replace zv := At.mono zv bq1
          replace bA := Below.next bA bq1
          replace y1 := Ext.cell bq1 y1
          clear bq1
          refine mix_quiet Keeps.ext 2 rfl (by kernel_rfl) rfl ?_
          intro ι U hne hU
          go_big_quiet_op
          clear hU hne U ι
          show wpAnyM _ _ _ _ _ _ _ _ _
          refine mix_quiet Keeps.ext 3 rfl (by kernel_rfl) rfl ?_
          intro ι U hne hU
          go_big_quiet_op
          clear hU hne U ι
          show wpAnyM _ _ _ _ _ _ _ _ _
          refine mix_skip Keeps.ext 4 rfl (by kernel_rfl) rfl ?_
          go_big_quiet_skip
          refine wpQuiet_nil ?_
          show wpAnyM _ _ _ _ _ _ _ _ _
          refine mix_skip Keeps.ext 5 rfl (by kernel_rfl) rfl ?_
          go_big_quiet_skip
          refine wpQuiet_nil ?_
          show wpAnyM _ _ _ _ _ _ _ _ _
          refine mix_skip Keeps.ext 6 rfl (by kernel_rfl) rfl ?_
          go_big_quiet_skip
          refine wpQuiet_nil ?_
          show wpAnyM _ _ _ _ _ _ _ _ _
          refine mix_skip Keeps.ext 7 rfl (by kernel_rfl) rfl ?_
          go_big_quiet_skip
          refine wpQuiet_nil ?_
          show wpAnyM _ _ _ _ _ _ _ _ _
          refine mix_skip Keeps.ext 8 rfl (by kernel_rfl) rfl ?_
          go_big_quiet_skip
          refine wpQuiet_nil ?_
          show wpAnyM _ _ _ _ _ _ _ _ _
          refine mix_skip Keeps.ext 9 rfl (by kernel_rfl) rfl ?_
          go_big_quiet_skip
          refine wpQuiet_nil ?_
          show wpAnyM _ _ _ _ _ _ _ _ _
          refine mix_skip Keeps.ext 10 rfl (by kernel_rfl) rfl ?_
          go_big_quiet_skip
          refine wpQuiet_nil ?_
          show wpAnyM _ _ _ _ _ _ _ _ _
          refine mix_skip Keeps.ext 11 rfl (by kernel_rfl) rfl ?_
          go_big_quiet_skip
          refine wpQuiet_nil ?_
          show wpAnyM _ _ _ _ _ _ _ _ _
          refine mix_skip Keeps.ext 12 rfl (by kernel_rfl) rfl ?_
          go_big_quiet_skip
          refine wpQuiet_nil ?_
          show wpAnyM _ _ _ _ _ _ _ _ _
          refine mix_skip Keeps.ext 13 rfl (by kernel_rfl) rfl ?_
          go_big_quiet_skip
          refine wpQuiet_nil ?_
          show wpAnyM _ _ _ _ _ _ _ _ _
          refine mix_skip Keeps.ext 14 rfl (by kernel_rfl) rfl ?_
          go_big_quiet_skip
          refine wpQuiet_nil ?_
          show wpAnyM _ _ _ _ _ _ _ _ _
          refine mix_skip Keeps.ext 15 rfl (by kernel_rfl) rfl ?_
          go_big_quiet_skip
          refine wpQuiet_nil ?_
          show wpAnyM _ _ _ _ _ _ _ _ _
          refine mix_quiet Keeps.ext 16 rfl (by kernel_rfl) rfl ?_
          intro ι U hne hU
          go_big_quiet_op
          clear hU hne U ι
          show wpAnyM _ _ _ _ _ _ _ _ _
          refine mix_end (by kernel_rfl) ?_
          go_wp2_with (first | (at_make; refine Stop.un ?_) | (at_builtin; refine Stop.un ?_) | (with_reducible refine Stop.conv 22 9 ?_) | (with_reducible refine Stop.conv 9 22 ?_))
          go_ret
          exact ⟨by first | rfl | simp, bA⟩
        | true =>
          rw [hR] at HRT
          by_cases hk0 : k = 0
          ·
            subst hk0
            have HD3 : Hid (q = fitL (kinds.drop (i + 1)) (l.drop (i + 1))) := Lib.hid (by rw [HD2.out, HU.out, hR]; simp)
            clear HD2 HU hR
            refine mix_startE 17 rfl (by kernel_rfl) ?_
            intro xq hxq
            replace zv := At.mono zv hxq
            replace bA := Below.next bA hxq
            replace y1 := Ext.cell hxq y1
            clear hxq
            refine mix_quiet Keeps.ext 0 rfl (by kernel_rfl) rfl ?_
            intro ι U hne hU
            have hcw0 := fun ii => (hU ii).cell y1
            have hcw1 := fun ii => (At.mono zv (hU ii)).cell 0 rfl
            have hcw2 := fun ii => (At.mono zv (hU ii)).cell 1 rfl
            have hcw3 := fun ii => (At.mono zv (hU ii)).cell 2 rfl
            go_big_quiet_op
            clear hU hne hcw0 hcw1 hcw2 hcw3 U ι
            show wpAnyM _ _ _ _ _ _ _ _ _
            refine mix_any 1 rfl (by kernel_rfl) rfl ?_
            go_wp2_with (first | (at_make; refine Stop.un ?_) | (at_builtin; refine Stop.un ?_) | (with_reducible refine Stop.conv 22 9 ?_) | (with_reducible refine Stop.conv 9 22 ?_))
            refine (HRT.out _).mono ?_
            rintro e wq2 ⟨rfl, bq2⟩
            go_wp2_with (first | (at_make; refine Stop.un ?_) | (at_builtin; refine Stop.un ?_) | (with_reducible refine Stop.conv 22 9 ?_) | (with_reducible refine Stop.conv 9 22 ?_))
            refine MixPost.mk bq2 ?_
            replace zv := At.mono zv bq2
            replace bA := Below.next bA bq2
            replace y1 := Ext.cell bq2 y1
            clear bq2
            refine mix_quiet Keeps.ext 2 rfl (by kernel_rfl) rfl ?_
            intro ι U hne hU
            go_big_quiet_op
            clear hU hne U ι
            show wpAnyM _ _ _ _ _ _ _ _ _
            refine mix_quiet Keeps.ext 3 rfl (by kernel_rfl) rfl ?_
            intro ι U hne hU
            go_big_quiet_op
            clear hU hne U ι
            show wpAnyM _ _ _ _ _ _ _ _ _
            refine mix_quiet Keeps.ext 4 rfl (by kernel_rfl) rfl ?_
            intro ι U hne hU
            go_big_quiet_op
            clear hU hne U ι
            show wpAnyM _ _ _ _ _ _ _ _ _
            refine mix_quiet Keeps.ext 5 rfl (by kernel_rfl) rfl ?_
            intro ι U hne hU
            have hcw0 := fun ii => (hU ii).cell y1
            have hcw1 := fun ii => (At.mono zv (hU ii)).cell 0 rfl
            have hcw2 := fun ii => (At.mono zv (hU ii)).cell 1 rfl
            have hcw3 := fun ii => (At.mono zv (hU ii)).cell 2 rfl
            go_big_quiet_op
            clear hU hne hcw0 hcw1 hcw2 hcw3 U ι
            show wpAnyM _ _ _ _ _ _ _ _ _
            refine mix_quiet Keeps.ext 6 rfl (by kernel_rfl) rfl ?_
            intro ι U hne hU
            go_big_quiet_op
            clear hU hne U ι
            show wpAnyM _ _ _ _ _ _ _ _ _
            refine mix_quiet Keeps.ext 7 rfl (by kernel_rfl) rfl ?_
            intro ι U hne hU
            go_big_quiet_op
            clear hU hne U ι
            show wpAnyM _ _ _ _ _ _ _ _ _
            refine mix_skip Keeps.ext 8 rfl (by kernel_rfl) rfl ?_
            go_big_quiet_skip
            refine wpQuiet_nil ?_
            show wpAnyM _ _ _ _ _ _ _ _ _
            refine mix_skip Keeps.ext 9 rfl (by kernel_rfl) rfl ?_
            go_big_quiet_skip
            refine wpQuiet_nil ?_
            show wpAnyM _ _ _ _ _ _ _ _ _
            refine mix_skip Keeps.ext 10 rfl (by kernel_rfl) rfl ?_
            go_big_quiet_skip
            refine wpQuiet_nil ?_
            show wpAnyM _ _ _ _ _ _ _ _ _
            refine mix_skip Keeps.ext 11 rfl (by kernel_rfl) rfl ?_
            go_big_quiet_skip
            refine wpQuiet_nil ?_
            show wpAnyM _ _ _ _ _ _ _ _ _
            refine mix_skip Keeps.ext 12 rfl (by kernel_rfl) rfl ?_
            go_big_quiet_skip
            refine wpQuiet_nil ?_
            show wpAnyM _ _ _ _ _ _ _ _ _
            refine mix_skip Keeps.ext 13 rfl (by kernel_rfl) rfl ?_
            go_big_quiet_skip
            refine wpQuiet_nil ?_
            show wpAnyM _ _ _ _ _ _ _ _ _
            refine mix_skip Keeps.ext 14 rfl (by kernel_rfl) rfl ?_
            go_big_quiet_skip
            refine wpQuiet_nil ?_
            show wpAnyM _ _ _ _ _ _ _ _ _
            refine mix_quiet Keeps.ext 15 rfl (by kernel_rfl) rfl ?_
            intro ι U hne hU
            go_big_quiet_op
            clear hU hne U ι
            show wpAnyM _ _ _ _ _ _ _ _ _
            refine mix_quiet Keeps.ext 16 rfl (by kernel_rfl) rfl ?_
            intro ι U hne hU
            go_big_quiet_op
            clear hU hne U ι
            show wpAnyM _ _ _ _ _ _ _ _ _
            refine mix_end (by kernel_rfl) ?_
            go_wp2_with (first | (at_make; refine Stop.un ?_) | (at_builtin; refine Stop.un ?_) | (with_reducible refine Stop.conv 22 9 ?_) | (with_reducible refine Stop.conv 9 22 ?_))
            go_roundw
            case rel => exact ⟨i + 1, by omega, by go_num, bA, HD3⟩
            case measure => simp [intOf]; omega
          ·
            have hkn : (k != 0) = true := by simpa using hk0
            by_cases hku : k = ui
            ·
              have HD3 : Hid (q = fitL (kinds.drop (i + 1)) (l.drop (i + 1))) := Lib.hid (by rw [HD2.out, HU.out, hR, decide_eq_true hku]; simp)
              subst hku
              clear HD2 HU hR hk0
              refine mix_startE 17 rfl (by kernel_rfl) ?_
              intro xq hxq
              replace zv := At.mono zv hxq
              replace bA := Below.next bA hxq
              replace y1 := Ext.cell hxq y1
              clear hxq
              refine mix_quiet Keeps.ext 0 rfl (by kernel_rfl) rfl ?_
              intro ι U hne hU
              have hcw0 := fun ii => (hU ii).cell y1
              have hcw1 := fun ii => (At.mono zv (hU ii)).cell 0 rfl
              have hcw2 := fun ii => (At.mono zv (hU ii)).cell 1 rfl
              have hcw3 := fun ii => (At.mono zv (hU ii)).cell 2 rfl
              go_big_quiet_op
              clear hU hne hcw0 hcw1 hcw2 hcw3 U ι
              show wpAnyM _ _ _ _ _ _ _ _ _
              refine mix_any 1 rfl (by kernel_rfl) rfl ?_
              go_wp2_with (first | (at_make; refine Stop.un ?_) | (at_builtin; refine Stop.un ?_) | (with_reducible refine Stop.conv 22 9 ?_) | (with_reducible refine Stop.conv 9 22 ?_))
              refine (HRT.out _).mono ?_
              rintro e wq3 ⟨rfl, bq3⟩
              go_wp2_with (first | (at_make; refine Stop.un ?_) | (at_builtin; refine Stop.un ?_) | (with_reducible refine Stop.conv 22 9 ?_) | (with_reducible refine Stop.conv 9 22 ?_))
              refine MixPost.mk bq3 ?_
              replace zv := At.mono zv bq3
              replace bA := Below.next bA bq3
              replace y1 := Ext.cell bq3 y1
              clear bq3
              refine mix_quiet Keeps.ext 2 rfl (by kernel_rfl) rfl ?_
              intro ι U hne hU
              go_big_quiet_op
              clear hU hne U ι
              show wpAnyM _ _ _ _ _ _ _ _ _
              refine mix_quiet Keeps.ext 3 rfl (by kernel_rfl) rfl ?_
              intro ι U hne hU
              go_big_quiet_op
              clear hU hne U ι
              show wpAnyM _ _ _ _ _ _ _ _ _
              refine mix_quiet Keeps.ext 4 rfl (by kernel_rfl) rfl ?_
              intro ι U hne hU
              go_big_quiet_op
              clear hU hne U ι
              show wpAnyM _ _ _ _ _ _ _ _ _
              refine mix_quiet Keeps.ext 5 rfl (by kernel_rfl) rfl ?_
              intro ι U hne hU
              have hcw0 := fun ii => (hU ii).cell y1
              have hcw1 := fun ii => (At.mono zv (hU ii)).cell 0 rfl
              have hcw2 := fun ii => (At.mono zv (hU ii)).cell 1 rfl
              have hcw3 := fun ii => (At.mono zv (hU ii)).cell 2 rfl
              go_big_quiet_op
              clear hU hne hcw0 hcw1 hcw2 hcw3 U ι
              show wpAnyM _ _ _ _ _ _ _ _ _
              refine mix_quiet Keeps.ext 6 rfl (by kernel_rfl) rfl ?_
              intro ι U hne hU
              go_big_quiet_op
              clear hU hne U ι
              show wpAnyM _ _ _ _ _ _ _ _ _
              refine mix_quiet Keeps.ext 7 rfl (by kernel_rfl) rfl ?_
              intro ι U hne hU
              go_big_quiet_op
              clear hU hne U ι
              show wpAnyM _ _ _ _ _ _ _ _ _
              refine mix_quiet Keeps.ext 8 rfl (by kernel_rfl) rfl ?_
              intro ι U hne hU
              go_big_quiet_op
              clear hU hne U ι
              show wpAnyM _ _ _ _ _ _ _ _ _
              refine mix_quiet Keeps.ext 9 rfl (by kernel_rfl) rfl ?_
              intro ι U hne hU
              have hcw0 := fun ii => (hU ii).cell y1
              have hcw1 := fun ii => (At.mono zv (hU ii)).cell 0 rfl
              have hcw2 := fun ii => (At.mono zv (hU ii)).cell 1 rfl
              have hcw3 := fun ii => (At.mono zv (hU ii)).cell 2 rfl
              go_big_quiet_op
              clear hU hne hcw0 hcw1 hcw2 hcw3 U ι
              show wpAnyM _ _ _ _ _ _ _ _ _
              refine mix_quiet Keeps.ext 10 rfl (by kernel_rfl) rfl ?_
              intro ι U hne hU
              go_big_quiet_op
              clear hU hne U ι
              show wpAnyM _ _ _ _ _ _ _ _ _
              refine mix_quiet Keeps.ext 11 rfl (by kernel_rfl) rfl ?_
              intro ι U hne hU
              go_big_quiet_op
              clear hU hne U ι
              show wpAnyM _ _ _ _ _ _ _ _ _
              refine mix_quiet Keeps.ext 12 rfl (by kernel_rfl) rfl ?_
              intro ι U hne hU
              go_big_quiet_op
              clear hU hne U ι
              show wpAnyM _ _ _ _ _ _ _ _ _
              refine mix_quiet Keeps.ext 13 rfl (by kernel_rfl) rfl ?_
              intro ι U hne hU
              have hcw0 := fun ii => (hU ii).cell y1
              have hcw1 := fun ii => (At.mono zv (hU ii)).cell 0 rfl
              have hcw2 := fun ii => (At.mono zv (hU ii)).cell 1 rfl
              have hcw3 := fun ii => (At.mono zv (hU ii)).cell 2 rfl
              go_big_quiet_op
              clear hU hne hcw0 hcw1 hcw2 hcw3 U ι
              show wpAnyM _ _ _ _ _ _ _ _ _
              refine mix_quiet Keeps.ext 14 rfl (by kernel_rfl) rfl ?_
              intro ι U hne hU
              go_big_quiet_op
              clear hU hne U ι
              show wpAnyM _ _ _ _ _ _ _ _ _
              refine mix_quiet Keeps.ext 15 rfl (by kernel_rfl) rfl ?_
              intro ι U hne hU
              go_big_quiet_op
              clear hU hne U ι
              show wpAnyM _ _ _ _ _ _ _ _ _
              refine mix_quiet Keeps.ext 16 rfl (by kernel_rfl) rfl ?_
              intro ι U hne hU
              go_big_quiet_op
              clear hU hne U ι
              show wpAnyM _ _ _ _ _ _ _ _ _
              refine mix_end (by kernel_rfl) ?_
              go_wp2_with (first | (at_make; refine Stop.un ?_) | (at_builtin; refine Stop.un ?_) | (with_reducible refine Stop.conv 22 9 ?_) | (with_reducible refine Stop.conv 9 22 ?_))
              go_roundw
              case rel => exact ⟨i + 1, by omega, by go_num, bA, HD3⟩
              case measure => simp [intOf]; omega
            ·
              have hkb : (k != ui) = true := by simpa using hku
              have hqf := HD2.out
              rw [HU.out, hR, decide_eq_false hku, decide_eq_false hk0] at hqf
              obtain rfl : q = false := hqf
              clear HD2 HU hR hk0 hku
              refine mix_startE 17 rfl (by kernel_rfl) ?_
              intro xq hxq
              replace zv := At.mono zv hxq
              replace bA := Below.next bA hxq
              replace y1 := Ext.cell hxq y1
              clear hxq
              refine mix_quiet Keeps.ext 0 rfl (by kernel_rfl) rfl ?_
              intro ι U hne hU
              have hcw0 := fun ii => (hU ii).cell y1
              have hcw1 := fun ii => (At.mono zv (hU ii)).cell 0 rfl
              have hcw2 := fun ii => (At.mono zv (hU ii)).cell 1 rfl
              have hcw3 := fun ii => (At.mono zv (hU ii)).cell 2 rfl
              go_big_quiet_op
              clear hU hne hcw0 hcw1 hcw2 hcw3 U ι
              show wpAnyM _ _ _ _ _ _ _ _ _
              refine mix_any 1 rfl (by kernel_rfl) rfl ?_
              go_wp2_with (first | (at_make; refine Stop.un ?_) | (at_builtin; refine Stop.un ?_) | (with_reducible refine Stop.conv 22 9 ?_) | (with_reducible refine Stop.conv 9 22 ?_))
              refine (HRT.out _).mono ?_
              rintro e wq4 ⟨rfl, bq4⟩
              go_wp2_with (first | (at_make; refine Stop.un ?_) | (at_builtin; refine Stop.un ?_) | (with_reducible refine Stop.conv 22 9 ?_) | (with_reducible refine Stop.conv 9 22 ?_))
              refine MixPost.mk bq4 ?_
              replace zv := At.mono zv bq4
              replace bA := Below.next bA bq4
              replace y1 := Ext.cell bq4 y1
              clear bq4
              refine mix_quiet Keeps.ext 2 rfl (by kernel_rfl) rfl ?_
              intro ι U hne hU
              go_big_quiet_op
              clear hU hne U ι
              show wpAnyM _ _ _ _ _ _ _ _ _
              refine mix_quiet Keeps.ext 3 rfl (by kernel_rfl) rfl ?_
              intro ι U hne hU
              go_big_quiet_op
              clear hU hne U ι
              show wpAnyM _ _ _ _ _ _ _ _ _
              refine mix_quiet Keeps.ext 4 rfl (by kernel_rfl) rfl ?_
              intro ι U hne hU
              go_big_quiet_op
              clear hU hne U ι
              show wpAnyM _ _ _ _ _ _ _ _ _
              refine mix_quiet Keeps.ext 5 rfl (by kernel_rfl) rfl ?_
              intro ι U hne hU
              have hcw0 := fun ii => (hU ii).cell y1
              have hcw1 := fun ii => (At.mono zv (hU ii)).cell 0 rfl
              have hcw2 := fun ii => (At.mono zv (hU ii)).cell 1 rfl
              have hcw3 := fun ii => (At.mono zv (hU ii)).cell 2 rfl
              go_big_quiet_op
              clear hU hne hcw0 hcw1 hcw2 hcw3 U ι
              show wpAnyM _ _ _ _ _ _ _ _ _
              refine mix_quiet Keeps.ext 6 rfl (by kernel_rfl) rfl ?_
              intro ι U hne hU
              go_big_quiet_op
              clear hU hne U ι
              show wpAnyM _ _ _ _ _ _ _ _ _
              refine mix_quiet Keeps.ext 7 rfl (by kernel_rfl) rfl ?_
              intro ι U hne hU
              go_big_quiet_op
              clear hU hne U ι
              show wpAnyM _ _ _ _ _ _ _ _ _
              refine mix_quiet Keeps.ext 8 rfl (by kernel_rfl) rfl ?_
              intro ι U hne hU
              go_big_quiet_op
              clear hU hne U ι
              show wpAnyM _ _ _ _ _ _ _ _ _
              refine mix_quiet Keeps.ext 9 rfl (by kernel_rfl) rfl ?_
              intro ι U hne hU
              have hcw0 := fun ii => (hU ii).cell y1
              have hcw1 := fun ii => (At.mono zv (hU ii)).cell 0 rfl
              have hcw2 := fun ii => (At.mono zv (hU ii)).cell 1 rfl
              have hcw3 := fun ii => (At.mono zv (hU ii)).cell 2 rfl
              go_big_quiet_op
              clear hU hne hcw0 hcw1 hcw2 hcw3 U ι
              show wpAnyM _ _ _ _ _ _ _ _ _
              refine mix_quiet Keeps.ext 10 rfl (by kernel_rfl) rfl ?_
              intro ι U hne hU
              go_big_quiet_op
              clear hU hne U ι
              show wpAnyM _ _ _ _ _ _ _ _ _
              refine mix_quiet Keeps.ext 11 rfl (by kernel_rfl) rfl ?_
              intro ι U hne hU
              go_big_quiet_op
              clear hU hne U ι
              show wpAnyM _ _ _ _ _ _ _ _ _
              refine mix_quiet Keeps.ext 12 rfl (by kernel_rfl) rfl ?_
              intro ι U hne hU
              go_big_quiet_op
              clear hU hne U ι
              show wpAnyM _ _ _ _ _ _ _ _ _
              refine mix_quiet Keeps.ext 13 rfl (by kernel_rfl) rfl ?_
              intro ι U hne hU
              have hcw0 := fun ii => (hU ii).cell y1
              have hcw1 := fun ii => (At.mono zv (hU ii)).cell 0 rfl
              have hcw2 := fun ii => (At.mono zv (hU ii)).cell 1 rfl
              have hcw3 := fun ii => (At.mono zv (hU ii)).cell 2 rfl
              go_big_quiet_op
              clear hU hne hcw0 hcw1 hcw2 hcw3 U ι
              show wpAnyM _ _ _ _ _ _ _ _ _
              refine mix_quiet Keeps.ext 14 rfl (by kernel_rfl) rfl ?_
              intro ι U hne hU
              go_big_quiet_op
              clear hU hne U ι
              show wpAnyM _ _ _ _ _ _ _ _ _
              refine mix_quiet Keeps.ext 15 rfl (by kernel_rfl) rfl ?_
              intro ι U hne hU
              go_big_quiet_op
              clear hU hne U ι
              show wpAnyM _ _ _ _ _ _ _ _ _
              refine mix_quiet Keeps.ext 16 rfl (by kernel_rfl) rfl ?_
              intro ι U hne hU
              go_big_quiet_op
              clear hU hne U ι
              show wpAnyM _ _ _ _ _ _ _ _ _
              refine mix_end (by kernel_rfl) ?_
              go_wp2_with (first | (at_make; refine Stop.un ?_) | (at_builtin; refine Stop.un ?_) | (with_reducible refine Stop.conv 22 9 ?_) | (with_reducible refine Stop.conv 9 22 ?_))
              go_ret
              exact ⟨by first | rfl | simp, bA⟩
      · obtain rfl : i = rn := by omega
        have hqt := HD.out
        rw [List.drop_of_length_le (by have h1 := HN.out.1; have h2 := HN.out.2; omega), List.drop_of_length_le (by have h1 := HN.out.1; have h2 := HN.out.2; omega)] at hqt
        obtain rfl : q = true := hqt
        clear HD
        go_wp2_with (first | (at_make; refine Stop.un ?_) | (at_builtin; refine Stop.un ?_) | (with_reducible refine Stop.conv 22 9 ?_) | (with_reducible refine Stop.conv 9 22 ?_))
        go_ret
        exact ⟨by first | rfl | simp, bw⟩
  · have hnb : ((rn : Int) != (kn : Int)) = true := by simp; omega
    have hqf : q = false := by
      cases q with
      | false => rfl
      | true => exact absurd (fitL_len _ _ HQ.out) (by rw [HN.out.1, HN.out.2]; exact hn)
    subst hqf
    clear hn hl e1 h1 hcs
    go_enter Try.func25, Try.ntmps25
    go_wp2_with (first | (at_make; refine Stop.un ?_) | (at_builtin; refine Stop.un ?_) | (with_reducible refine Stop.conv 22 9 ?_) | (with_reducible refine Stop.conv 9 22 ?_))
    go_ret
    exact ⟨rfl, Below.refl _ _⟩
theorem gfit1_any (gb : Nat) (ka : Option Addr) (kn kc : Nat) (kinds : List UInt8) (r : Rw) (w : World)
    (z : At w gb #[.slice ka kn kc] 22) (h1 : Cs w ka (bcells kinds)) (e1 : kinds.length = kn) (m1 : kn ≤ kc) (c1 : kc ≤ maxLen) (h2 : RowOk w r) :
    Calls Try.prog 24 #[.slice r.a r.n r.cap, .pointer (some ⟨gb, 0, none⟩)] w (fun e w' => e = .returned (.bool (!fitL kinds r.l)) ∧ Below w.heap.size w w') := by
  have H := Lib.hid (gfits_any ka kn kc kinds r w h1 e1 m1 c1 h2)
  have x0 := z.cell 0 rfl
  clear h1 e1 h2
  go_enter Try.func24, Try.ntmps24
  go_wp2_with (first | (at_make; refine Stop.un ?_) | (at_builtin; refine Stop.un ?_) | (with_reducible refine Stop.conv 22 9 ?_) | (with_reducible refine Stop.conv 9 22 ?_))
  refine H.out.mono ?_
  rintro e w1 ⟨rfl, b⟩
  go_wp2_with (first | (at_make; refine Stop.un ?_) | (at_builtin; refine Stop.un ?_) | (with_reducible refine Stop.conv 22 9 ?_) | (with_reducible refine Stop.conv 9 22 ?_))
  go_ret
  exact ⟨by first | rfl | simp, b⟩
set_option maxRecDepth 100000 in
set_option maxHeartbeats 4000000 in
theorem gindexf_any (gb : Nat) (ka : Option Addr) (kn kc : Nat) (kinds : List UInt8) (ra : Option Addr) (rn rc : Nat) (rows : List Rw) (w : World)
    (z : At w gb #[.slice ka kn kc] 22) (h1 : Cs w ka (bcells kinds)) (e1 : kinds.length = kn) (m1 : kn ≤ kc) (c1 : kc ≤ maxLen)
    (t : Tab w ra rows) (e2 : rows.length = rn) (m2 : rn ≤ rc) (c2 : rc ≤ maxLen) :
    Calls Try.prog 37 #[.slice ra rn rc, .func (.func 24) #[] #[.pointer (some ⟨gb, 0, none⟩)]] w (fun e w' => ∃ i : Int, e = .returned (.int .i64 i) ∧ (0 ≤ i ↔ rows.all (fun r => fitL kinds r.l) = false) ∧ Below w.heap.size w w') := by
  unfold maxLen at c2
  have HF := Lib.hid (fun (r : Rw) W z h1 h2 => gfit1_any gb ka kn kc kinds r W z h1 e1 m1 c1 h2)
  have HN := Lib.hid e2
  have HTT := Lib.hid (And.intro z (And.intro h1 t))
  clear e1 e2 z h1 t
  go_enter Try.func37, Try.ntmps37
  go_wp2_with (first | (at_make; refine Stop.un ?_) | (at_builtin; refine Stop.un ?_) | (with_reducible refine Stop.conv 22 9 ?_) | (with_reducible refine Stop.conv 9 22 ?_))
  go_loopw [8] (fun c wr => ∃ j : Nat, j ≤ rn ∧ c = .int .i64 (j : Int) ∧ Below w.heap.size w wr ∧ Hid ((rows.take j).all (fun r => fitL kinds r.l) = true)) (fun c _ => rn - (intOf c).toNat)
  case atStart => exact ⟨0, Nat.zero_le _, rfl, Below.refl _ _, Lib.hid (by simp)⟩
  case round =>
    obtain ⟨j, hj, rfl, bw, HX⟩ := hrel
    by_cases hlt : j < rn
    · have hjl : j < rows.length := by have := HN.out; omega
      have t2 := HTT.out.2.2.mono bw
      obtain ⟨b, o, rfl⟩ := t2.cs.addr (by rw [rwcells_length]; omega)
      have x0 := t2.at hjl
      have HF1 := Lib.hid (HF.out rows[j] wr (HTT.out.1.mono bw) (HTT.out.2.1.mono bw (Nat.le_refl _)) (t2.ok _ (List.getElem_mem _)))
      have HB : Hid (fitL kinds rows[j].l = false → rows.all (fun r => fitL kinds r.l) = false) := Lib.hid (fun h => by
        rw [List.all_eq_false]
        exact ⟨rows[j], List.getElem_mem _, by rw [h]; decide⟩)
      have HG : Hid (fitL kinds rows[j].l = true → (rows.take (j + 1)).all (fun r => fitL kinds r.l) = true) := Lib.hid (fun h => by
        rw [List.take_succ_eq_append_getElem hjl, List.all_append, HX.out]; simp [h])
      have hrle := (t2.ok rows[j] (List.getElem_mem _)).le
      have hrmx : rows[j].cap ≤ 9223372036854775807 := (t2.ok rows[j] (List.getElem_mem _)).max
      generalize rows[j] = r at x0 HF1 HB HG hrle hrmx
      have xl := lt_cell x0
      clear t2 hjl
      cases hq : fitL kinds r.l with
      | false =>
        have HR := Lib.hid (HB.out hq)
        rw [hq] at HF1
        clear HB HG hq HX
        go_wp2_with (first | (at_make; refine Stop.un ?_) | (at_builtin; refine Stop.un ?_) | (with_reducible refine Stop.conv 22 9 ?_) | (with_reducible refine Stop.conv 9 22 ?_))
        refine HF1.out.mono ?_
        rintro e w1 ⟨rfl, b1⟩
        have bw2 := bw.next b1
        clear HF1 b1
        go_wp2_with (first | (at_make; refine Stop.un ?_) | (at_builtin; refine Stop.un ?_) | (with_reducible refine Stop.conv 22 9 ?_) | (with_reducible refine Stop.conv 9 22 ?_))
        go_ret
        exact ⟨_, rfl, ⟨fun _ => HR.out, fun _ => by omega⟩, bw2⟩
      | true =>
        have HX2 := Lib.hid (HG.out hq)
        rw [hq] at HF1
        clear HB HG hq HX
        go_wp2_with (first | (at_make; refine Stop.un ?_) | (at_builtin; refine Stop.un ?_) | (with_reducible refine Stop.conv 22 9 ?_) | (with_reducible refine Stop.conv 9 22 ?_))
        refine HF1.out.mono ?_
        rintro e w1 ⟨rfl, b1⟩
        have bw2 := bw.next b1
        clear HF1 b1 x0 bw
        go_wp2_with (first | (at_make; refine Stop.un ?_) | (at_builtin; refine Stop.un ?_) | (with_reducible refine Stop.conv 22 9 ?_) | (with_reducible refine Stop.conv 9 22 ?_))
        go_roundw
        case rel => exact ⟨j + 1, by omega, by go_num, bw2, HX2⟩
        case measure => simp [intOf]; omega
    · have hno := HX.out
      rw [List.take_of_length_le (by have := HN.out; omega)] at hno
      have HNO := Lib.hid hno
      clear HX hno
      go_wp2_with (first | (at_make; refine Stop.un ?_) | (at_builtin; refine Stop.un ?_) | (with_reducible refine Stop.conv 22 9 ?_) | (with_reducible refine Stop.conv 9 22 ?_))
      go_ret
      exact ⟨_, rfl, ⟨fun h => by omega, fun h => by rw [HNO.out] at h; cases h⟩, bw⟩
theorem gcontainsf_any (gb : Nat) (ka : Option Addr) (kn kc : Nat) (kinds : List UInt8) (ra : Option Addr) (rn rc : Nat) (rows : List Rw) (w : World)
    (z : At w gb #[.slice ka kn kc] 22) (h1 : Cs w ka (bcells kinds)) (e1 : kinds.length = kn) (m1 : kn ≤ kc) (c1 : kc ≤ maxLen)
    (t : Tab w ra rows) (e2 : rows.length = rn) (m2 : rn ≤ rc) (c2 : rc ≤ maxLen) :
    Calls Try.prog 23 #[.slice ra rn rc, .func (.func 24) #[] #[.pointer (some ⟨gb, 0, none⟩)]] w (fun e w' => e = .returned (.bool (!rows.all (fun r => fitL kinds r.l))) ∧ Below w.heap.size w w') := by
  have H := Lib.hid (gindexf_any gb ka kn kc kinds ra rn rc rows w z h1 e1 m1 c1 t e2 m2 c2)
  obtain ⟨q, hq⟩ : ∃ q, rows.all (fun r => fitL kinds r.l) = q := ⟨_, rfl⟩
  rw [hq] at H
  rw [hq]
  clear z h1 e1 t e2 hq
  go_enter Try.func23, Try.ntmps23
  go_wp2_with (first | (at_make; refine Stop.un ?_) | (at_builtin; refine Stop.un ?_) | (with_reducible refine Stop.conv 22 9 ?_) | (with_reducible refine Stop.conv 9 22 ?_))
  refine H.out.mono ?_
  rintro e w1 ⟨i, rfl, hi, b1⟩
  by_cases h0 : 0 ≤ i
  · obtain rfl : q = false := hi.1 h0
    clear hi
    go_wp2_with (first | (at_make; refine Stop.un ?_) | (at_builtin; refine Stop.un ?_) | (with_reducible refine Stop.conv 22 9 ?_) | (with_reducible refine Stop.conv 9 22 ?_))
    go_ret
    exact ⟨by simp [h0], b1⟩
  · obtain rfl : q = true := by
      cases q with
      | true => rfl
      | false => exact absurd (hi.2 rfl) h0
    clear hi
    go_wp2_with (first | (at_make; refine Stop.un ?_) | (at_builtin; refine Stop.un ?_) | (with_reducible refine Stop.conv 22 9 ?_) | (with_reducible refine Stop.conv 9 22 ?_))
    go_ret
    exact ⟨by simp [h0], b1⟩
/-! What is told of all groups: plain. -/
/-- The keys by which rows are grouped. -/
def gkeys (bs : List Int) : List Ky := bs.map (fun c => ⟨c, false⟩)
/-- The values of a row by which it is grouped. -/
def hdOf (bs : List Int) (r : List V) : List V := bs.map (atV r)
/-- Do rows stand alike? -/
def eqK (ks : List Ky) (a b : List V) : Bool := decide (cmpR a b ks = 0)
/-- Rows side by side that stand alike. -/
def runsF (ks : List Ky) : Nat → List (List V) → List (List (List V))
  | 0, _ => []
  | _ + 1, [] => []
  | f + 1, r :: l => (r :: l.takeWhile (eqK ks r)) :: runsF ks f (l.dropWhile (eqK ks r))
theorem dw_len {α : Type} (p : α → Bool) (l : List α) : (l.dropWhile p).length ≤ l.length := by
  induction l with
  | nil => simp
  | cons a l ih =>
    rw [List.dropWhile_cons]
    split
    · rw [List.length_cons]; omega
    · exact Nat.le_refl _
theorem runsF_fuel (ks : List Ky) : ∀ (f g : Nat) (l : List (List V)), l.length ≤ f → l.length ≤ g → runsF ks f l = runsF ks g l
  | 0, 0, _, _, _ => rfl
  | 0, g + 1, [], _, _ => rfl
  | 0, _ + 1, _ :: _, h, _ => by simp at h
  | f + 1, 0, [], _, _ => rfl
  | _ + 1, 0, _ :: _, _, h => by simp at h
  | f + 1, g + 1, [], _, _ => rfl
  | f + 1, g + 1, r :: l, h1, h2 => by
    have := dw_len (eqK ks r) l
    simp only [List.length_cons] at h1 h2
    simp only [runsF]
    rw [runsF_fuel ks f g _ (by omega) (by omega)]
def runs (ks : List Ky) (l : List (List V)) : List (List (List V)) := runsF ks l.length l
theorem runs_nil (ks : List Ky) : runs ks [] = [] := rfl
theorem runs_cons (ks : List Ky) (r : List V) (l : List (List V)) : runs ks (r :: l) = (r :: l.takeWhile (eqK ks r)) :: runs ks (l.dropWhile (eqK ks r)) := by
  show (r :: l.takeWhile (eqK ks r)) :: runsF ks l.length (l.dropWhile (eqK ks r)) = _
  rw [runsF_fuel ks l.length (l.dropWhile (eqK ks r)).length _ (dw_len _ _) (Nat.le_refl _)]
  rfl
/-- The rows of groups, one behind the other. -/
def tellAll (bs : List Int) (ags : List Ag) : List (List (List V)) → List (List V) → Int × List (List V)
  | [], out => (0, out)
  | g :: gs, out => if (tldB g (hdOf bs (g.headD [])) ags).1 = 0 then tellAll bs ags gs (out ++ [(tldB g (hdOf bs (g.headD [])) ags).2]) else ((tldB g (hdOf bs (g.headD [])) ags).1, [])
/-- The groups that are left. -/
def pend (bs : List Int) (rest : List (List V)) (o : Bool) : List (List (List V)) := if (bs = [] ∧ rest = []) ∧ o = true then [[]] else runs (gkeys bs) rest
/-- What Rows returns. -/
def grpB (kinds : List UInt8) (rows : List (List V)) (bs : List Int) (ags : List Ag) : Int × List (List V) :=
  if kindsE kinds bs ags = 0 then (if rows.all (fitL kinds) = true then tellAll bs ags (pend bs (sortL (gkeys bs) rows) true) [] else (7, [])) else (kindsE kinds bs ags, [])
theorem tw_pos (ks : List Ky) (r : List V) (l : List (List V)) : (r :: l).takeWhile (eqK ks r) = r :: l.takeWhile (eqK ks r) := by
  rw [List.takeWhile_cons, if_pos (by unfold eqK; rw [cmpR_refl]; rfl)]
theorem dw_pos (ks : List Ky) (r : List V) (l : List (List V)) : (r :: l).dropWhile (eqK ks r) = l.dropWhile (eqK ks r) := by
  rw [List.dropWhile_cons, if_pos (by unfold eqK; rw [cmpR_refl]; rfl)]
/-- How far a while goes. -/
theorem tw_len {α : Type} (p : α → Bool) : ∀ (l : List α) (n : Nat), n ≤ l.length → (∀ i (h : i < l.length), i < n → p l[i] = true) → (n = l.length ∨ ∃ h : n < l.length, p l[n] = false) → l.take n = l.takeWhile p ∧ l.drop n = l.dropWhile p
  | [], n, h, _, _ => by simp
  | a :: l, 0, _, _, h2 => by
    rcases h2 with h2 | ⟨_, h2⟩
    · simp at h2
    · simp only [List.getElem_cons_zero] at h2
      rw [List.takeWhile_cons, List.dropWhile_cons, h2]
      simp
  | a :: l, n + 1, h, h1, h2 => by
    have ha := h1 0 (by simp) (by omega)
    simp only [List.getElem_cons_zero] at ha
    have ih := tw_len p l n (by simpa using h) (fun i hi hin => h1 (i + 1) (by rw [List.length_cons]; omega) (by omega)) (by
      rcases h2 with h2 | ⟨h3, h2⟩
      · exact .inl (by simpa using h2)
      · exact .inr ⟨by simpa using h3, h2⟩)
    rw [List.takeWhile_cons, List.dropWhile_cons, ha, List.take_succ_cons, List.drop_succ_cons, ih.1, ih.2]
    exact ⟨rfl, rfl⟩
/-- The values that are told have kinds. -/
theorem kn_kinds (x : Ag) (rows : List (List V)) (h : ∀ r ∈ rows, ∀ v ∈ r, 0 ≤ v.k) : 0 ≤ (knOf x rows).least.k ∧ 0 ≤ (knOf x rows).most.k := by
  have hv : ∀ v ∈ rows.map (vOf x), 0 ≤ v.k := fun v hv => by
    obtain ⟨r, hr, rfl⟩ := List.mem_map.1 hv
    unfold vOf
    split
    · exact Int.le_refl _
    · exact atV_kind (h r hr) _
  unfold knOf
  have : ∀ (l : List V) (K : Kn), (∀ v ∈ l, 0 ≤ v.k) → 0 ≤ K.least.k ∧ 0 ≤ K.most.k → 0 ≤ (l.foldl Kn.add K).least.k ∧ 0 ≤ (l.foldl Kn.add K).most.k := by
    intro l
    induction l with
    | nil => intro K _ hK; exact hK
    | cons v l ih =>
      intro K hl hK
      rw [List.foldl_cons]
      refine ih _ (fun u hu => hl u (List.mem_cons_of_mem _ hu)) ?_
      have h0 := hl v List.mem_cons_self
      unfold Kn.add
      split
      · exact hK
      · simp only
        constructor
        · split
          · exact h0
          · exact hK.1
        · split
          · exact h0
          · exact hK.2
  exact this _ _ hv ⟨Int.le_refl _, Int.le_refl _⟩
theorem agg_kind (rows : List (List V)) (x : Ag) (h : ∀ r ∈ rows, ∀ v ∈ r, 0 ≤ v.k) : 0 ≤ (aggB rows x).1.k := by
  have hk := kn_kinds x rows h
  unfold aggB Kn.told
  have h2 : (0 : Int) ≤ 2 := by decide
  have h0 : (0 : Int) ≤ V.zero.k := Int.le_refl _
  split
  · exact h2
  · split
    · exact h2
    · split
      · exact hk.1
      · split
        · exact hk.2
        · split
          · exact h0
          · split
            · exact h2
            · exact h0
theorem tld_kind (rows : List (List V)) (h : ∀ r ∈ rows, ∀ v ∈ r, 0 ≤ v.k) : ∀ (ags : List Ag) (out : List V), (∀ v ∈ out, 0 ≤ v.k) → ∀ v ∈ (tldB rows out ags).2, 0 ≤ v.k
  | [], out, ho, v, hv => ho v hv
  | x :: l, out, ho, v, hv => by
    unfold tldB at hv
    split at hv
    · refine tld_kind rows h l _ (fun u hu => ?_) v hv
      rcases List.mem_append.1 hu with hu | hu
      · exact ho u hu
      · rw [List.mem_singleton.1 hu]; exact agg_kind rows x h
    · cases hv
end Go.Proofs.Ytbiniecjenencaa
