/- Sort, of few rows. -/
import Derived.Test.YtbiniecjenencaaIns
import Derived.Test.YtbiniecjenencaaOOwn
set_option linter.unusedVariables false
set_option linter.unusedSimpArgs false
set_option maxRecDepth 10000
namespace Go.Proofs.Ytbiniecjenencaa
open Go.RowKit
set_option maxHeartbeats 1000000 in
theorem stable_small (g0 B h : Nat) (ak : Option Addr) (p ck : Nat) (ks : List Ky) (n cap : Nat) (rows : List Rw) (w : World) (hs : Srt g0 B h ak p ck ks w rows) (hn : rows.length = n) (hnc : n ≤ cap) (hcap : cap ≤ 140737488355328) (h20 : n < 20) :
    Calls Try.prog 53 #[.slice (some ⟨g0, 0, none⟩) n cap, .int .i64 (n : Int), cmpF h] w (fun e w' => e = .returned (.tuple #[]) ∧ Srt g0 B h ak p ck ks w' (sortB (rcmp ks) rows) ∧ RX B (some g0) w w') := by
  have HI := Lib.hid (insertion_any g0 B h ak p ck ks n cap [] rows [] w (by simpa using hs) (by simpa using hn) hnc hcap 0 n rfl (by omega))
  simp only [List.nil_append, List.append_nil] at HI
  clear hs hn
  unfold cmpF at HI ⊢
  go_enter Try.func53, Try.ntmps53
  go_wp2_with (first | (at_make; refine Stop.un ?_) | (at_builtin; refine Stop.un ?_) | (with_reducible refine Stop.conv 22 9 ?_) | (with_reducible refine Stop.conv 9 22 ?_))
  refine wp_loop_rounds 1 ?_
  rw [rounds_succ]
  go_wp2_with (first | (at_make; refine Stop.un ?_) | (at_builtin; refine Stop.un ?_) | (with_reducible refine Stop.conv 22 9 ?_) | (with_reducible refine Stop.conv 9 22 ?_))
  refine HI.out.mono ?_
  rintro e w1 ⟨rfl, s1, x1⟩
  go_wp2_with (first | (at_make; refine Stop.un ?_) | (at_builtin; refine Stop.un ?_) | (with_reducible refine Stop.conv 22 9 ?_) | (with_reducible refine Stop.conv 9 22 ?_))
  refine wp_loop_rounds 1 ?_
  rw [rounds_succ]
  go_wp2_with (first | (at_make; refine Stop.un ?_) | (at_builtin; refine Stop.un ?_) | (with_reducible refine Stop.conv 22 9 ?_) | (with_reducible refine Stop.conv 9 22 ?_))
  go_end0
  exact ⟨rfl, s1, x1⟩
set_option maxHeartbeats 1000000 in
theorem sortstable_small (g0 B h : Nat) (ak : Option Addr) (p ck : Nat) (ks : List Ky) (n cap : Nat) (rows : List Rw) (w : World) (hs : Srt g0 B h ak p ck ks w rows) (hn : rows.length = n) (hnc : n ≤ cap) (hcap : cap ≤ 140737488355328) (h20 : n < 20) :
    Calls Try.prog 40 #[.slice (some ⟨g0, 0, none⟩) n cap, cmpF h] w (fun e w' => e = .returned (.tuple #[]) ∧ Srt g0 B h ak p ck ks w' (sortB (rcmp ks) rows) ∧ RX B (some g0) w w') := by
  have HI := Lib.hid (stable_small g0 B h ak p ck ks n cap rows w hs hn hnc hcap h20)
  clear hs hn
  unfold cmpF at HI ⊢
  go_enter Try.func40, Try.ntmps40
  go_wp2_with (first | (at_make; refine Stop.un ?_) | (at_builtin; refine Stop.un ?_) | (with_reducible refine Stop.conv 22 9 ?_) | (with_reducible refine Stop.conv 9 22 ?_))
  refine HI.out.mono ?_
  rintro e w1 ⟨rfl, s1, x1⟩
  go_wp2_with (first | (at_make; refine Stop.un ?_) | (at_builtin; refine Stop.un ?_) | (with_reducible refine Stop.conv 22 9 ?_) | (with_reducible refine Stop.conv 9 22 ?_))
  go_end0
  exact ⟨rfl, s1, x1⟩
/-- Rows' values in order. -/
def sortL (ks : List Ky) (L : List (List V)) : List (List V) := sortB (fun a b => cmpR a b ks) L
theorem sortL_of (ks : List Ky) (rows : List Rw) : (sortB (rcmp ks) rows).map (·.l) = sortL ks (rows.map (·.l)) := sortB_map (·.l) (fun a b => cmpR a b ks) rows
/-- Rows of the call's own that are the ones told. -/
def RetRows (w : World) (n : Nat) (L : List (List V)) : Ending → World → Prop := fun e w' =>
  ∃ g rs, e = .returned (.slice (some ⟨g, 0, none⟩) n n) ∧ Own2 w w' g rs ∧ rs.map (·.l) = L
theorem Cs.low {w : World} {ao : Option Addr} {xs : List Value} (h : Cs w ao xs) (hn : xs ≠ []) : ∀ a, ao = some a → a.block < w.heap.size := by
  intro a ha
  obtain ⟨b, o, e⟩ := h.addr (List.length_pos_iff.2 hn)
  rw [e] at ha h
  cases ha
  have := h.at (j := 0) (u := xs[0]'(List.length_pos_iff.2 hn)) (by simp [List.length_pos_iff.2 hn])
  exact lt_cell this
theorem Srt.of {w1 w2 : World} {g h : Nat} {rs : List Rw} {ak : Option Addr} {p ck : Nat} {ks : List Ky} (o : Own2 w1 w2 g rs) (hk : At w2 h #[.slice ak p ck] 57) (hh : h < w1.heap.size) (hc : Cs w1 ak (kcells ks)) (hl : ks.length = p) (hle : p ≤ ck) (hm : ck ≤ maxLen) :
    Srt g w2.heap.size h ak p ck ks w2 rs :=
  ⟨o.at_, fun r hr => ⟨(o.ok r hr).1, fun a ha => ⟨((o.ok r hr).2 a ha).2.1, ((o.ok r hr).2 a ha).2.2⟩⟩, hk, hc.mono o.below (Nat.le_refl _),
    fun hn a ha => by
      have h1 := hc.low (by cases ks with | nil => exact absurd rfl hn | cons k l => simp [kcells]) a ha
      have h2 := o.ge
      have h3 := o.below.size
      omega, hl, hle, hm, ⟨by have := o.below.size; omega, by have := o.ge; omega, o.at_.lt⟩, Nat.le_refl _⟩
theorem Own2.sorted {w w1 w2 w3 : World} {g h : Nat} {rs rs' : List Rw} {ak : Option Addr} {p ck : Nat} {ks : List Ky} (o : Own2 w1 w2 g rs) (hb : Below w.heap.size w w1) (s : Srt g w2.heap.size h ak p ck ks w3 rs') (hx : RX w2.heap.size (some g) w2 w3) (hp : rs'.Perm rs) : Own2 w w3 g rs' := by
  have hs := hb.size
  refine ⟨s.at_, Nat.le_trans hs o.ge, (hb.next o.below).trans (hx.below_of (Nat.le_trans hs (o.below.size)) (Nat.le_trans hs o.ge)), fun r hr => ⟨(s.ok r hr).1, fun a ha => ?_⟩, fun r hr => (o.fz r (hp.mem_iff.1 hr)).rx hx (fun a ha => ⟨((o.ok r (hp.mem_iff.1 hr)).2 a ha).2.1, ((o.ok r (hp.mem_iff.1 hr)).2 a ha).2.2⟩)⟩
  have h1 := (o.ok r (hp.mem_iff.1 hr)).2 a ha
  have h2 := hx.size
  exact ⟨by omega, by omega, h1.2.2⟩
set_option maxHeartbeats 2000000 in
theorem sort_small (ao : Option Addr) (n cap : Nat) (rows : List Rw) (ak : Option Addr) (p ck : Nat) (ks : List Ky) (w : World) (h : Tab w ao rows) (hn : rows.length = n) (hnc : n ≤ cap) (hcap : cap ≤ maxLen) (h20 : n < 20) (hr : ∀ r ∈ rows, r.n ≤ 1000000)
    (hk : Cs w ak (kcells ks)) (hl : ks.length = p) (hle : p ≤ ck) (hm : ck ≤ maxLen) :
    Calls Try.prog 26 #[.slice ao n cap, .slice ak p ck] w (RetRows w n (sortL ks (rows.map (·.l)))) := by
  have HO := Lib.hid (fun w h => own_any ao n cap rows w h hn hnc hcap (by omega) hr)
  have HSS := Lib.hid (fun (g B h : Nat) (rs : List Rw) (w : World) (hs : Srt g B h ak p ck ks w rs) (hn : rs.length = n) => sortstable_small g B h ak p ck ks n n rs w hs hn (Nat.le_refl _) (by omega) h20)
  have HN := Lib.hid hn
  have HKL := Lib.hid (And.intro hl (And.intro hle hm))
  have b1 := (Below.refl w.heap.size w).alloc (Nat.le_refl _) (.cells #[.slice ak p ck] 57)
  have z1 := At.new w #[.slice ak p ck] 57
  have h1 := h.mono b1
  have k1 := hk.mono b1 (Nat.le_refl _)
  have hs1 : w.heap.size < (w.alloc (.cells #[.slice ak p ck] 57)).heap.size := z1.lt
  clear hr hn hl hle hm hcap h hk
  go_enter Try.func26, Try.ntmps26
  go_upto_region 1 with fail
  generalize w.alloc (.cells #[.slice ak p ck] 57) = w1 at b1 z1 h1 k1 hs1 ⊢
  go_wp2_with (first | (at_make; refine Stop.un ?_) | (at_builtin; refine Stop.un ?_) | (with_reducible refine Stop.conv 22 9 ?_) | (with_reducible refine Stop.conv 9 22 ?_))
  refine (HO.out _ h1).mono ?_
  rintro e w2 ⟨g, rs, rfl, o2, hrl⟩
  have z2 := z1.mono o2.below
  have HRL := Lib.hid hrl
  have hrn : rs.length = n := by have := congrArg List.length hrl; rw [List.length_map, List.length_map] at this; rw [this]; exact HN.out
  have hS := Srt.of o2 z2 hs1 k1 HKL.out.1 HKL.out.2.1 HKL.out.2.2
  have HR := Lib.hid hrn
  clear hrl hrn h1 z1
  go_wp2_with (first | (at_make; refine Stop.un ?_) | (at_builtin; refine Stop.un ?_) | (with_reducible refine Stop.conv 22 9 ?_) | (with_reducible refine Stop.conv 9 22 ?_))
  refine (HSS.out g w2.heap.size w.heap.size rs w2 hS HR.out).mono ?_
  rintro e w3 ⟨rfl, s3, x3⟩
  go_wp2_with (first | (at_make; refine Stop.un ?_) | (at_builtin; refine Stop.un ?_) | (with_reducible refine Stop.conv 22 9 ?_) | (with_reducible refine Stop.conv 9 22 ?_))
  go_ret
  exact ⟨g, _, rfl, Own2.sorted o2 b1 s3 x3 (sortB_perm (rcmp ks) rs), by rw [sortL_of, HRL.out]⟩
end Go.Proofs.Ytbiniecjenencaa
