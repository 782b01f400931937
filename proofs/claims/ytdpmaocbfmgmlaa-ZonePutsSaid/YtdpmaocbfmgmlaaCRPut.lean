/- What the reference's Put returns. -/
import Derived.Test.YtdpmaocbfmgmlaaCPut
import Derived.Test.YtdpmaocbfmgmlaaRefT
set_option linter.unusedVariables false
set_option linter.unusedSimpArgs false
namespace Go.Proofs.Ytdpmaocbfmgmlaa
open Go.RowKit
set_option maxRecDepth 100000 in
set_option maxHeartbeats 4000000 in
theorem rput_any (ao : Option Addr) (m cap : Nat) (bs : List UInt8) (a : V) (w : World) (hc : Cs w ao (bcells bs)) (hm : bs.length = m) (hl : m ≤ 140737488350000) (hn : -9223372036854775808 ≤ a.n ∧ a.n ≤ 9223372036854775807) :
    Calls Try.prog 51 #[.slice ao m cap, a.val] w (RetB w (bs ++ putV a)) := by
  have Hm := Lib.hid hm
  have HC := Lib.hid (canon_cases a)
  have HN := Lib.hid hn
  clear hm hn
  have hP : putV a = UInt8.ofNat (canon a).k.toNat :: tailV (canon a) := rfl
  rw [hP]
  clear hP
  have hR : Hid (canon a = if rightB a = true then a else V.zero) := Lib.hid rfl
  have HV := Lib.hid (fun W => rright_any a W)
  generalize rightB a = r at hR HV
  generalize hY : canon a = Y at hR HC ⊢
  clear hY
  obtain ⟨k, n, s⟩ := a
  obtain ⟨yk, yn, ys⟩ := Y
  simp only [V.val] at HV ⊢
  go_enter Try.func51, Try.ntmps51
  go_wp2_with (first | (at_make; refine Stop.un ?_) | (at_builtin; refine Stop.un ?_) | (with_reducible refine Stop.conv 40 9 ?_) | (with_reducible refine Stop.conv 9 40 ?_))
  refine (HV.out _).mono ?_
  rintro e w1 ⟨rfl, b1⟩
  have Z := (VAt.new w ⟨k, n, s⟩).mono b1
  have B : Below w.heap.size w w1 := ((Below.refl _ _).alloc (Nat.le_refl _) _).next b1
  clear b1 HV
  go_upto_if 8 with fail
  go_cut [] (fun wx => VAt wx w.heap.size ⟨yk, yn, ys⟩ ∧ Below w.heap.size w wx)
  case first =>
    cases r with
    | true =>
      have e := hR.out
      rw [if_pos rfl] at e
      simp only [V.mk.injEq] at e
      obtain ⟨rfl, rfl, rfl⟩ := e
      clear hR HC
      go_wp2_with (first | (at_make; refine Stop.un ?_) | (at_builtin; refine Stop.un ?_) | (with_reducible refine Stop.conv 40 9 ?_) | (with_reducible refine Stop.conv 9 40 ?_))
      go_meet
      exact ⟨Z, B⟩
    | false =>
      have e := hR.out
      rw [if_neg (by decide)] at e
      simp only [V.zero, V.mk.injEq] at e
      obtain ⟨rfl, rfl, rfl⟩ := e
      have hz := Z.open_
      obtain ⟨e0, e1, e2, hz⟩ := hz
      obtain ⟨f0, f1, f2⟩ := Z.free
      clear hR HC
      go_wp2_with (first | (at_make; refine Stop.un ?_) | (at_builtin; refine Stop.un ?_) | (with_reducible refine Stop.conv 40 9 ?_) | (with_reducible refine Stop.conv 9 40 ?_))
      go_meet
      exact ⟨Z.put _ _ _, below_put B (Nat.le_refl _) _ _ _⟩
  case rest =>
    obtain ⟨Z1, B1⟩ := hcut
    have hy0 : 0 ≤ yk ∧ yk < 256 := by rcases HC.out with h | h | h | h | ⟨_, h⟩ <;> (simp only [V.zero, V.mk.injEq] at h; omega)
    obtain ⟨hk0, hk1⟩ := hy0
    clear hR Z B
    go_wp2_with (first | (at_make; refine Stop.un ?_) | (at_builtin; refine Stop.un ?_) | (with_reducible refine Stop.conv 40 9 ?_) | (with_reducible refine Stop.conv 9 40 ?_))
    have hO : OwnB w (wc.alloc (.cells #[] 5)) (.slice (some ⟨wc.heap.size, 0, none⟩) 0 0) 0 [] := Own.block B1 rfl (by decide)
    have hc1 := (hc.mono B1 (Nat.le_refl _)).alloc (.cells #[] 5)
    have hlt1 := Z1.lt
    replace Z1 := Z1.mono ((Below.refl wc.heap.size wc).alloc (Nat.le_refl _) (.cells #[] 5))
    refine Stop.mk (app_bsx w _ _ rfl rfl hO rfl rfl Hm.out hc1 (by omega) ?_)
    intro ao1 cap1 w2 O1 g1 p1
    rw [List.nil_append] at O1
    rw [Nat.zero_add] at O1 p1 ⊢
    replace Z1 := Z1.grown g1 (fun e => by simp [Value.ownBlock] at e; omega)
    obtain ⟨e0, e1, e2, hz⟩ := Z1.open_
    have P1 : Hid (∀ k, (Value.slice ao1 m cap1).ownBlock = some k → wc.heap.size ≤ k) := Lib.hid (fun k hk => by
      rcases p1 k hk with h | h
      · simp [Value.ownBlock] at h; omega
      · simp at h; omega)
    clear hO hc1 g1 p1
    go_wp2_with (first | (at_make; refine Stop.un ?_) | (at_builtin; refine Stop.un ?_) | (with_reducible refine Stop.conv 40 9 ?_) | (with_reducible refine Stop.conv 9 40 ?_))
    have kc1 : Cs (w2.alloc (.cells #[.int .u8 yk] 5)) (some ⟨w2.heap.size, 0, none⟩) (bcells [UInt8.ofNat yk.toNat]) := by rw [bcells_int yk hk0 hk1]; exact cs_new _ _ _
    have O1' : OwnB w (w2.alloc (.cells #[.int .u8 yk] 5)) _ _ _ := Own.alloc O1 _
    have Z1' := Z1.mono ((Below.refl w2.heap.size w2).alloc (Nat.le_refl _) (.cells #[.int .u8 yk] 5))
    refine Stop.mk (app_bsx w _ _ rfl rfl O1' rfl rfl (show [UInt8.ofNat yk.toNat].length = 1 from rfl) kc1 (by omega) ?_)
    intro ao2 cap2 w3 O2 g2 _
    have Z2 := Z1'.grown g2 (fun e => by have := P1.out _ e.symm; omega)
    clear kc1 O1 O1' Z1 Z1' g2 P1 e0 e1 e2
    obtain ⟨n2, hn2⟩ : ∃ n2, n2 = m + 1 := ⟨_, rfl⟩
    rw [← hn2] at O2 ⊢
    obtain ⟨e0, e1, e2, hz⟩ := Z2.open_
    have HO := Lib.hid (OwnB.length O2)
    have hle : n2 ≤ 140737488350001 := by omega
    have HN2 := Lib.hid hn2
    clear hn2
    rcases HC.out with h | h | h | h | ⟨hs, h⟩
    · simp only [V.zero, V.mk.injEq] at h
      obtain ⟨rfl, rfl, rfl⟩ := h
      go_wp2_with (first | (at_make; refine Stop.un ?_) | (at_builtin; refine Stop.un ?_) | (with_reducible refine Stop.conv 40 9 ?_) | (with_reducible refine Stop.conv 9 40 ?_))
      go_ret
      exact ⟨_, _, _, by have := HO.out; simpa [tailV] using this, rfl, by simpa [tailV] using O2⟩
    · simp only [V.zero, V.mk.injEq] at h
      obtain ⟨rfl, rfl, rfl⟩ := h
      go_wp2_with (first | (at_make; refine Stop.un ?_) | (at_builtin; refine Stop.un ?_) | (with_reducible refine Stop.conv 40 9 ?_) | (with_reducible refine Stop.conv 9 40 ?_))
      refine (rint_any _ _ _ _ _ _ (Own.cs O2) HO.out (by omega) (by decide) (by decide)).mono ?_
      rintro e w9 ⟨a9, n9, c9, h9, rfl, o9⟩
      have H9 := Lib.hid h9
      clear h9 e0 e1 e2
      go_wp2_with (first | (at_make; refine Stop.un ?_) | (at_builtin; refine Stop.un ?_) | (with_reducible refine Stop.conv 40 9 ?_) | (with_reducible refine Stop.conv 9 40 ?_))
      go_ret
      exact ⟨a9, n9, c9, by have := H9.out; simpa [tailV] using this, rfl, by have this : OwnB w w9 _ _ _ := Own.up o9 (Own.below O2); simpa [tailV] using this⟩
    · simp only [V.zero, V.mk.injEq] at h
      obtain ⟨rfl, rfl, rfl⟩ := h
      go_wp2_with (first | (at_make; refine Stop.un ?_) | (at_builtin; refine Stop.un ?_) | (with_reducible refine Stop.conv 40 9 ?_) | (with_reducible refine Stop.conv 9 40 ?_))
      refine (rint_any _ _ _ _ _ _ (Own.cs O2) HO.out (by omega) (by decide) (by decide)).mono ?_
      rintro e w9 ⟨a9, n9, c9, h9, rfl, o9⟩
      have H9 := Lib.hid h9
      clear h9 e0 e1 e2
      go_wp2_with (first | (at_make; refine Stop.un ?_) | (at_builtin; refine Stop.un ?_) | (with_reducible refine Stop.conv 40 9 ?_) | (with_reducible refine Stop.conv 9 40 ?_))
      go_ret
      exact ⟨a9, n9, c9, by have := H9.out; simpa [tailV] using this, rfl, by have this : OwnB w w9 _ _ _ := Own.up o9 (Own.below O2); simpa [tailV] using this⟩
    · simp only [V.zero, V.mk.injEq] at h
      obtain ⟨rfl, rfl, rfl⟩ := h
      go_wp2_with (first | (at_make; refine Stop.un ?_) | (at_builtin; refine Stop.un ?_) | (with_reducible refine Stop.conv 40 9 ?_) | (with_reducible refine Stop.conv 9 40 ?_))
      refine (rint_any _ _ _ _ _ _ (Own.cs O2) HO.out (by omega) HN.out.1 HN.out.2).mono ?_
      rintro e w9 ⟨a9, n9, c9, h9, rfl, o9⟩
      have H9 := Lib.hid h9
      clear h9 e0 e1 e2
      go_wp2_with (first | (at_make; refine Stop.un ?_) | (at_builtin; refine Stop.un ?_) | (with_reducible refine Stop.conv 40 9 ?_) | (with_reducible refine Stop.conv 9 40 ?_))
      go_ret
      exact ⟨a9, n9, c9, by have := H9.out; simpa [tailV] using this, rfl, by have this : OwnB w w9 _ _ _ := Own.up o9 (Own.below O2); simpa [tailV] using this⟩
    · simp only [V.zero, V.mk.injEq] at h
      obtain ⟨rfl, rfl, rfl⟩ := h
      have hs9 : ys.size ≤ 1024 := hs
      go_wp2_with (first | (at_make; refine Stop.un ?_) | (at_builtin; refine Stop.un ?_) | (with_reducible refine Stop.conv 40 9 ?_) | (with_reducible refine Stop.conv 9 40 ?_))
      refine (rtext_any _ _ _ _ _ _ (Own.cs O2) HO.out (by omega)).mono ?_
      rintro e w9 ⟨a9, n9, c9, h9, rfl, o9⟩
      have H9 := Lib.hid h9
      clear h9 e0 e1 e2
      go_wp2_with (first | (at_make; refine Stop.un ?_) | (at_builtin; refine Stop.un ?_) | (with_reducible refine Stop.conv 40 9 ?_) | (with_reducible refine Stop.conv 9 40 ?_))
      go_ret
      exact ⟨a9, n9, c9, by have := H9.out; simpa [tailV] using this, rfl, by have this : OwnB w w9 _ _ _ := Own.up o9 (Own.below O2); simpa [tailV] using this⟩
end Go.Proofs.Ytdpmaocbfmgmlaa
