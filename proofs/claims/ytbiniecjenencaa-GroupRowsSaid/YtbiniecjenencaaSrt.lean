/- Rows that are being sorted. -/
import Derived.Test.YtbiniecjenencaaOCmp
set_option linter.unusedVariables false
set_option linter.unusedSimpArgs false
set_option maxRecDepth 10000
namespace Go.Proofs.Ytbiniecjenencaa
open Go.RowKit
/-- Rows that are being sorted lie in block g0, by keys that a function value holds in block h; below B nothing else changes. -/
structure Srt (g0 B h : Nat) (ak : Option Addr) (p ck : Nat) (ks : List Ky) (w : World) (rows : List Rw) : Prop where
  at_ : At w g0 (rwcells rows).toArray 36
  ok : ∀ r ∈ rows, RowOk w r ∧ ∀ a, r.a = some a → a.block < B ∧ a.block ≠ g0
  key : At w h #[.slice ak p ck] 57
  kcs : Cs w ak (kcells ks)
  kad : ks ≠ [] → ∀ a, ak = some a → a.block < B ∧ a.block ≠ g0
  klen : ks.length = p
  kle : p ≤ ck
  kmax : ck ≤ maxLen
  hB : h < B ∧ h ≠ g0 ∧ g0 < B
  size : B ≤ w.heap.size
theorem Srt.below {g0 B h : Nat} {ak : Option Addr} {p ck : Nat} {ks : List Ky} {w w' : World} {rows : List Rw} (s : Srt g0 B h ak p ck ks w rows) (b : Below w.heap.size w w') : Srt g0 B h ak p ck ks w' rows :=
  ⟨s.at_.mono b, fun r hr => ⟨(s.ok r hr).1.mono b, (s.ok r hr).2⟩, s.key.mono b, s.kcs.mono b (Nat.le_refl _), s.kad, s.klen, s.kle, s.kmax, s.hB, Nat.le_trans s.size b.size⟩
theorem RowOk.rx {B g0 : Nat} {w x : World} {r : Rw} (hx : RX B (some g0) w x) (o : RowOk w r) (had : ∀ a, r.a = some a → a.block < B ∧ a.block ≠ g0) : RowOk x r :=
  ⟨hx.cs o.cs (fun a ha => ⟨(had a ha).1, by simp; exact (had a ha).2⟩), o.len, o.le, o.max, o.kind⟩
/-- A place of the rows is written. -/
theorem Srt.put {g0 B h : Nat} {ak : Option Addr} {p ck : Nat} {ks : List Ky} {w : World} {rows : List Rw} (s : Srt g0 B h ak p ck ks w rows) (i : Nat) (r : Rw) (ho : RowOk w r) (had : ∀ a, r.a = some a → a.block < B ∧ a.block ≠ g0) :
    Srt g0 B h ak p ck ks (w.setCell ⟨g0, i, none⟩ (.slice r.a r.n r.cap)) (rows.set i r) := by
  have hx : RX B (some g0) w (w.setCell ⟨g0, i, none⟩ (.slice r.a r.n r.cap)) := RX.set w ⟨g0, i, none⟩ _ (.inr rfl)
  refine ⟨?_, ?_, ?_, ?_, s.kad, s.klen, s.kle, s.kmax, s.hB, Nat.le_trans s.size hx.size⟩
  · have hs := s.at_.set i (.slice r.a r.n r.cap)
    rwa [show (rwcells rows).toArray.setIfInBounds i (.slice r.a r.n r.cap) = (rwcells (rows.set i r)).toArray by simp [rwcells, List.map_set, Rw.sl]] at hs
  · intro q hq
    rcases List.mem_or_eq_of_mem_set hq with h1 | h1
    · exact ⟨(s.ok q h1).1.rx hx (s.ok q h1).2, (s.ok q h1).2⟩
    · rw [h1]; exact ⟨ho.rx hx had, had⟩
  · exact (hx.block h s.hB.1 (by simp; exact s.hB.2.1)).trans s.key
  · by_cases e : ks = []
    · rw [e]; exact Cs.nil _ _
    · exact hx.cs s.kcs (fun a ha => ⟨(s.kad e a ha).1, by simp; exact (s.kad e a ha).2⟩)
/-- Two rows change places. -/
theorem Srt.swap {g0 B h : Nat} {ak : Option Addr} {p ck : Nat} {ks : List Ky} {w : World} {rows : List Rw} (s : Srt g0 B h ak p ck ks w rows) (i j : Nat) (x y : Rw) (m1 : x ∈ rows) (m2 : y ∈ rows) :
    Srt g0 B h ak p ck ks ((w.setCell ⟨g0, i, none⟩ (.slice y.a y.n y.cap)).setCell ⟨g0, j, none⟩ (.slice x.a x.n x.cap)) ((rows.set i y).set j x) ∧ RX B (some g0) w ((w.setCell ⟨g0, i, none⟩ (.slice y.a y.n y.cap)).setCell ⟨g0, j, none⟩ (.slice x.a x.n x.cap)) := by
  have hx : RX B (some g0) w (w.setCell ⟨g0, i, none⟩ (.slice y.a y.n y.cap)) := RX.set w ⟨g0, i, none⟩ _ (.inr rfl)
  exact ⟨(s.put i y (s.ok y m2).1 (s.ok y m2).2).put j x ((s.ok x m1).1.rx hx (s.ok x m1).2) (s.ok x m1).2, hx.trans (RX.set _ ⟨g0, j, none⟩ _ (.inr rfl))⟩
theorem Srt.get {g0 B h : Nat} {ak : Option Addr} {p ck : Nat} {ks : List Ky} {w : World} {rows : List Rw} (s : Srt g0 B h ak p ck ks w rows) {i : Nat} (hi : i < rows.length) : w.cell? ⟨g0, i, none⟩ = some (.slice rows[i].a rows[i].n rows[i].cap) :=
  s.at_.cell i (by simp [rwcells, hi, Rw.sl])
/-- The function value that compares. -/
def cmpF (h : Nat) : Value := .func (.func 41) #[] #[.pointer (some ⟨h, 0, none⟩)]
set_option maxHeartbeats 1000000 in
theorem sortf_any (F : Nat) (hF : F = 41) {g0 B h : Nat} {ak : Option Addr} {p ck : Nat} {ks : List Ky} {w : World} {rows : List Rw} (s : Srt g0 B h ak p ck ks w rows) (r1 r2 : Rw) (m1 : r1 ∈ rows) (m2 : r2 ∈ rows) :
    Calls Try.prog F #[.slice r1.a r1.n r1.cap, .slice r2.a r2.n r2.cap, .pointer (some ⟨h, 0, none⟩)] w (fun e w' => e = .returned (.int .i64 (cmpR r1.l r2.l ks)) ∧ Below w.heap.size w w') := by
  subst hF
  have HC := Lib.hid (ocompare_any r1.a r1.n r1.cap r1.l r2.a r2.n r2.cap r2.l ak p ck ks w (s.ok r1 m1).1 (s.ok r2 m2).1 s.kcs s.klen s.kle s.kmax)
  have x0 := s.key.cell 0 rfl
  have xl := s.key.lt
  clear s m1 m2
  go_enter Try.func41, Try.ntmps41
  go_wp2_with (first | (at_make; refine Stop.un ?_) | (at_builtin; refine Stop.un ?_) | (with_reducible refine Stop.conv 22 9 ?_) | (with_reducible refine Stop.conv 9 22 ?_))
  refine HC.out.mono ?_
  rintro e w1 ⟨rfl, bt⟩
  go_wp2_with (first | (at_make; refine Stop.un ?_) | (at_builtin; refine Stop.un ?_) | (with_reducible refine Stop.conv 22 9 ?_) | (with_reducible refine Stop.conv 9 22 ?_))
  go_ret
  exact ⟨rfl, bt⟩
end Go.Proofs.Ytbiniecjenencaa
