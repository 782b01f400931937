/- The tree as a whole: which list's row comes next, and what comes behind it. -/
import Derived.Test.YtfhlbiddhgkcpaaLosY
set_option linter.unusedVariables false
set_option linter.unusedSimpArgs false
namespace Go.Proofs.Ytfhlbiddhgkcpaa
open Go.RowKit
/-- A tree in which all matches are played. -/
structure Gd (t : Tr) (H : List Rw) (ks : List Ky) (q : Nat) (A : Nat → Prop) (w : World) (h : Nat) (S : List Nat) (v : Nat) : Prop where
  T : Tre t H ks S q A w
  len : S.length = 2 ^ h
  hl : H.length ≤ 2 ^ h
  h4 : h ≤ 4
  s0 : S[0]? = some v
  vl : v < 2 ^ h
  won : Won ks (hds H) S (2 ^ h) h 1 v
theorem pow4 {h : Nat} (h4 : h ≤ 4) : 2 ^ h ≤ 16 := Nat.pow_le_pow_right (by omega) h4
theorem hds_length (H : List Rw) : (hds H).length = H.length := by simp [hds]
section
variable {t : Tr} {H : List Rw} {ks : List Ky} {q : Nat} {A : Nat → Prop} {w x : World} {h : Nat} {S : List Nat} {v : Nat}
theorem Gd.below (G : Gd t H ks q A w h S v) (b : Below w.heap.size w x) : Gd t H ks q A x h S v := ⟨G.T.below b, G.len, G.hl, G.h4, G.s0, G.vl, G.won⟩
theorem Gd.oth {P : Nat → Prop} (G : Gd t H ks q A w h S v) (o : Oth P w x) (hP : ∀ k, k < w.heap.size → P k → A k) : Gd t H ks q A x h S v := ⟨G.T.oth o hP, G.len, G.hl, G.h4, G.s0, G.vl, G.won⟩
theorem Gd.more {A' : Nat → Prop} (G : Gd t H ks q A w h S v) (b : Below w.heap.size w x) (hA : ∀ k, A' k → (A k ∨ w.heap.size ≤ k) ∧ k < x.heap.size) : Gd t H ks q A' x h S v := ⟨G.T.more b hA, G.len, G.hl, G.h4, G.s0, G.vl, G.won⟩
theorem Gd.nxt (G : Gd t H ks q A w h S v) : nxt ks (hds H) = if (gt (hds H) v).isSome = true then some v else none := won_top rfl (by rw [hds_length]; exact G.hl) G.won
end
def nextV : Option Nat → Value
  | some i => .tuple #[.int .i64 (i : Int), .bool true]
  | none => .tuple #[.int .i64 0, .bool false]
def okOf : Option Nat → Bool
  | some _ => true
  | none => false
def whoOf : Option Nat → Int
  | some i => (i : Int)
  | none => 0
theorem nextV_eq (o : Option Nat) : nextV o = .tuple #[.int .i64 (whoOf o), .bool (okOf o)] := by cases o <;> rfl
theorem next_nil (w : World) : Calls Try.prog 11 #[.pointer none] w (fun e w' => e = .returned (nextV none) ∧ Below w.heap.size w w') := by
  go_enter Try.func11, Try.ntmps11
  go_wp2_with (first | (at_make; refine Stop.un ?_) | (at_builtin; refine Stop.un ?_))
  exact bodyPost_ret (v := nextV none) (by simp [results, Try.results11, go_sem, nextV]) rfl ⟨rfl, Below.refl _ _⟩
theorem asked_nil (w : World) : Calls Try.prog 15 #[.pointer none] w (fun e w' => e = .returned (.int .i64 0) ∧ Below w.heap.size w w') := by
  go_enter Try.func15, Try.ntmps15
  go_wp2_with (first | (at_make; refine Stop.un ?_) | (at_builtin; refine Stop.un ?_))
  go_ret
  exact ⟨rfl, Below.refl _ _⟩
theorem asked_any {t : Tr} {H : List Rw} {ks : List Ky} {q : Nat} {A : Nat → Prop} {S : List Nat} (w : World) (T : Tre t H ks S q A w) : Calls Try.prog 15 #[.pointer (some ⟨t.g, 0, none⟩)] w (fun e w' => e = .returned (.int .i64 (q : Int)) ∧ Below w.heap.size w w') := by
  have x0 := T.z.cell 3 rfl
  have xl := T.z.lt
  clear T
  go_enter Try.func15, Try.ntmps15
  go_wp2_with (first | (at_make; refine Stop.un ?_) | (at_builtin; refine Stop.un ?_))
  go_ret
  exact ⟨rfl, Below.refl _ _⟩
set_option maxHeartbeats 2000000 in
theorem next_any (t : Tr) (H : List Rw) (ks : List Ky) (q : Nat) (A : Nat → Prop) (w : World) (h : Nat) (S : List Nat) (v : Nat) (G : Gd t H ks q A w h S v) :
    Calls Try.prog 11 #[.pointer (some ⟨t.g, 0, none⟩)] w (fun e w' => e = .returned (nextV (nxt ks (hds H))) ∧ Below w.heap.size w w') := by
  have h16 := pow4 G.h4
  have hvl := G.vl
  have HA := Lib.hid (head_any t H ks S q A v w G.T (by omega) (by have := G.hl; omega))
  have HG := Lib.hid G
  have hls : 0 < S.length := by rw [G.len]; omega
  have z := G.T.z
  rw [G.len] at z
  have x2 := z.cell 2 rfl
  have xl := z.lt
  have c0 := G.T.zs.cell 0 (v := .int .i64 (v : Int)) (by simp [G.s0])
  have cl := G.T.zs.lt
  have hn := G.nxt
  rw [gt_hds] at hn
  rw [hn]
  have hp : 0 < 2 ^ h := Nat.pow_pos (by omega)
  generalize 2 ^ h = sz at *
  generalize hr : rw H v = r at *
  obtain ⟨ra, rn, rc, rl⟩ := r
  simp only at HA
  have HLL : Hid (0 < S.length) := Lib.hid hls
  clear G hn hr hls z
  cases ra with
  | none =>
    go_enter Try.func11, Try.ntmps11
    go_wp2_with (first | (at_make; refine Stop.un ?_) | (at_builtin; refine Stop.un ?_))
    refine HA.out.mono ?_
    rintro e w1 ⟨rfl, b1⟩
    clear x2 c0 xl cl HA
    go_wp2_with (first | (at_make; refine Stop.un ?_) | (at_builtin; refine Stop.un ?_) | (with_reducible refine Stop.eql 26 ?_) | (with_reducible refine Stop.neq 26 ?_))
    refine Stop.mk (wpList_as _ rfl (exec_nilR _ _ _ rfl rfl _) ?_)
    go_wp2_with (first | (at_make; refine Stop.un ?_) | (at_builtin; refine Stop.un ?_))
    exact bodyPost_ret (v := nextV none) (by simp [results, Try.results11, go_sem, nextV]) rfl ⟨rfl, b1⟩
  | some ad =>
    go_enter Try.func11, Try.ntmps11
    go_wp2_with (first | (at_make; refine Stop.un ?_) | (at_builtin; refine Stop.un ?_))
    refine HA.out.mono ?_
    rintro e w1 ⟨rfl, b1⟩
    replace x2 := Ext.cell b1 x2
    replace c0 := Ext.cell b1 c0
    have xl := lt_cell x2
    have cl := lt_cell c0
    clear HA
    go_wp2_with (first | (at_make; refine Stop.un ?_) | (at_builtin; refine Stop.un ?_) | (with_reducible refine Stop.eql 26 ?_) | (with_reducible refine Stop.neq 26 ?_))
    refine Stop.mk (wpList_as _ rfl (exec_nilR _ _ _ rfl rfl _) ?_)
    go_wp2_with (first | (at_make; refine Stop.un ?_) | (at_builtin; refine Stop.un ?_))
    exact bodyPost_ret (v := nextV (some v)) (by simp [results, Try.results11, go_sem, nextV]) rfl ⟨rfl, b1⟩
end Go.Proofs.Ytfhlbiddhgkcpaa
