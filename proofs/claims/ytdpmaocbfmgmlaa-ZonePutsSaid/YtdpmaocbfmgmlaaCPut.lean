/- What Put of the program returns. -/
import Derived.Test.YtdpmaocbfmgmlaaForms
import Derived.Test.YtdpmaocbfmgmlaaWord
import Derived.Test.YtdpmaocbfmgmlaaOctT
import Derived.Test.YtdpmaocbfmgmlaaMix2
import Derived.Test.YtdpmaocbfmgmlaaVAt
import Derived.Test.YtdpmaocbfmgmlaaMore
import Derived.Deep.DeepCutAuto
set_option linter.unusedVariables false
set_option linter.unusedSimpArgs false
namespace Go.Proofs.Ytdpmaocbfmgmlaa
open Go.RowKit
def canon (a : V) : V := if rightB a = true then a else V.zero
theorem right_of_box : rightB ⟨1, 0, ByteArray.empty⟩ = true ∧ rightB ⟨1, 1, ByteArray.empty⟩ = true ∧ (∀ n, rightB ⟨2, n, ByteArray.empty⟩ = true) ∧ (∀ s, s.size ≤ 1024 → rightB ⟨3, 0, s⟩ = true) :=
  ⟨by simp [rightB, rightP, emp_toList], by simp [rightB, rightP, emp_toList], fun n => by simp [rightB, rightP, emp_toList], fun s hs => by simp [rightB, rightP, hs]⟩
/-- What a value is made into: one of these. -/
theorem canon_cases (a : V) : canon a = V.zero ∨ canon a = ⟨1, 0, ByteArray.empty⟩ ∨ canon a = ⟨1, 1, ByteArray.empty⟩ ∨ (canon a = ⟨2, a.n, ByteArray.empty⟩) ∨ (a.s.size ≤ 1024 ∧ canon a = ⟨3, 0, a.s⟩) := by
  obtain ⟨r1, r2, r3, r4⟩ := right_of_box
  rcases box_cases a with (rfl | rfl | ⟨n, rfl⟩ | ⟨s, hs, rfl⟩) | ⟨hb, hz⟩
  · rw [canon, if_pos r1]; exact .inr (.inl rfl)
  · rw [canon, if_pos r2]; exact .inr (.inr (.inl rfl))
  · rw [canon, if_pos (r3 n)]; exact .inr (.inr (.inr (.inl rfl)))
  · rw [canon, if_pos (r4 s hs)]; exact .inr (.inr (.inr (.inr ⟨hs, rfl⟩)))
  · rcases hz with ⟨rfl, h2⟩ | ⟨h1, h2⟩
    · rw [canon, if_pos h2]; exact .inl rfl
    · rw [canon, h2]; exact .inl rfl
def tailV (a : V) : List UInt8 := if a.k = 1 ∨ a.k = 2 then intB a.n else if a.k = 3 then textB a.s.data.toList else []
/-- The bytes of a value. -/
def putV (a : V) : List UInt8 := UInt8.ofNat (canon a).k.toNat :: tailV (canon a)
set_option maxRecDepth 100000 in
set_option maxHeartbeats 4000000 in
theorem put_any (ao : Option Addr) (m cap : Nat) (bs : List UInt8) (a : V) (w : World) (hc : Cs w ao (bcells bs)) (hm : bs.length = m) (hl : m ≤ 140737488350000) (hn : -9223372036854775808 ≤ a.n ∧ a.n ≤ 9223372036854775807) :
    Calls Try.prog 50 #[.slice ao m cap, a.val] w (RetB w (bs ++ putV a)) := by
  have Hm := Lib.hid hm
  have HC := Lib.hid (canon_cases a)
  have HN := Lib.hid hn
  clear hm hn
  have hP : putV a = UInt8.ofNat (canon a).k.toNat :: tailV (canon a) := rfl
  rw [hP]
  clear hP
  have hR : Hid (canon a = if rightB a = true then a else V.zero) := Lib.hid rfl
  have HV := Lib.hid (fun W => right_any a W)
  generalize rightB a = r at hR HV
  generalize hY : canon a = Y at hR HC ⊢
  clear hY
  obtain ⟨k, n, s⟩ := a
  obtain ⟨yk, yn, ys⟩ := Y
  simp only [V.val] at HV ⊢
  go_enter Try.func50, Try.ntmps50
  go_wp2_with (first | (at_make; refine Stop.un ?_) | (at_builtin; refine Stop.un ?_) | (with_reducible refine Stop.conv 40 9 ?_) | (with_reducible refine Stop.conv 9 40 ?_))
  refine (HV.out _).mono ?_
  rintro e w1 ⟨rfl, b1⟩
  have Z := (VAt.new w ⟨k, n, s⟩).mono b1
  have B : Below w.heap.size w w1 := ((Below.refl _ _).alloc (Nat.le_refl _) _).next b1
  clear b1 HV
  go_upto_if 8 with fail
  go_cut [] (fun wx => VAt wx w.heap.size ⟨yk, yn, ys⟩ ∧ Below w.heap.size w wx)
  case first =>
    cases r with
    | true =>
      have e := hR.out
      rw [if_pos rfl] at e
      simp only [V.mk.injEq] at e
      obtain ⟨rfl, rfl, rfl⟩ := e
      clear hR HC
      go_wp2_with (first | (at_make; refine Stop.un ?_) | (at_builtin; refine Stop.un ?_) | (with_reducible refine Stop.conv 40 9 ?_) | (with_reducible refine Stop.conv 9 40 ?_))
      go_meet
      exact ⟨Z, B⟩
    | false =>
      have e := hR.out
      rw [if_neg (by decide)] at e
      simp only [V.zero, V.mk.injEq] at e
      obtain ⟨rfl, rfl, rfl⟩ := e
      have hz := Z.open_
      obtain ⟨e0, e1, e2, hz⟩ := hz
      obtain ⟨f0, f1, f2⟩ := Z.free
      clear hR HC
      go_wp2_with (first | (at_make; refine Stop.un ?_) | (at_builtin; refine Stop.un ?_) | (with_reducible refine Stop.conv 40 9 ?_) | (with_reducible refine Stop.conv 9 40 ?_))
      go_meet
      exact ⟨Z.put _ _ _, below_put B (Nat.le_refl _) _ _ _⟩
  case rest =>
    obtain ⟨Z1, B1⟩ := hcut
    clear hR Z B
    go_upto_region 3 with fail
    go_cut [5] (fun x wx => ∃ (ao2 : Option Addr) (n2 cap2 : Nat), n2 = m + 1 ∧ x = .slice ao2 n2 cap2 ∧ OwnB w wx (.slice ao2 n2 cap2) n2 (bs ++ [UInt8.ofNat yk.toNat]) ∧ VAt wx w.heap.size ⟨yk, yn, ys⟩)
    case first =>
      obtain ⟨e0, e1, e2, hz⟩ := Z1.open_
      refine mix_startX (wc.heap.size) none 7 rfl (by kernel_rfl) ?_
      intro xq hxq
      have hy0 : 0 ≤ yk ∧ yk < 256 := by rcases HC.out with h | h | h | h | ⟨_, h⟩ <;> (simp only [V.zero, V.mk.injEq] at h; omega)
      obtain ⟨hk0, hk1⟩ := hy0
      have hc1 := hc.mono B1 (Nat.le_refl _)
      replace e0 := Ext.cell hxq e0
      replace Z1 := VAt.mono Z1 hxq
      replace B1 := Below.next B1 hxq
      have hc2 := hc1.mono hxq (Nat.le_refl _)
      have hsz := hxq.size
      have HSZ := Lib.hid hsz
      clear hsz hxq hc1
      refine mix_quiet (Keeps.rx (wc.heap.size) none) 0 rfl (by kernel_rfl) rfl ?_
      intro ι U hne hU
      go_big_quiet_op
      clear hU hne U ι
      show wpAnyM _ _ _ _ _ _ _ _ _
      refine mix_quiet (Keeps.rx (wc.heap.size) none) 2 rfl (by kernel_rfl) rfl ?_
      intro ι U hne hU
      go_big_quiet_op
      clear hU hne U ι
      show wpAnyM _ _ _ _ _ _ _ _ _
      refine mix_quiet (Keeps.rx (wc.heap.size) none) 3 rfl (by kernel_rfl) rfl ?_
      intro ι U hne hU
      have hcv := fun ii => RX.cell (hU ii) hz (by simp) e0
      go_big_quiet_op
      clear hU hne hcv U ι
      show wpAnyM _ _ _ _ _ _ _ _ _
      refine mix_two 1 4 rfl rfl (by kernel_rfl) rfl rfl ?_ ?_
      ·
        go_wp2_with (first | (at_make; refine Stop.un ?_) | (at_builtin; refine Stop.un ?_) | (with_reducible refine Stop.conv 40 9 ?_) | (with_reducible refine Stop.conv 9 40 ?_))
        refine Stop.mk (app_nil w _ _ rfl rfl B1 rfl rfl Hm.out hc2 (by omega) ?_)
        intro ao5 cap5 w5 O2 b5 GE0
        have GE := Lib.hid GE0
        clear GE0
        go_wp2_with (first | (at_make; refine Stop.un ?_) | (at_builtin; refine Stop.un ?_) | (with_reducible refine Stop.conv 40 9 ?_) | (with_reducible refine Stop.conv 9 40 ?_))
        refine MixPost.mk (RX.ext b5 (by have := HSZ.out; omega)) ?_
        replace Z1 := Z1.mono b5
        refine mix_any 4 rfl (by kernel_rfl) rfl ?_
        go_wp2_with (first | (at_make; refine Stop.un ?_) | (at_builtin; refine Stop.un ?_) | (with_reducible refine Stop.conv 40 9 ?_) | (with_reducible refine Stop.conv 9 40 ?_))
        have b6 : Below w5.heap.size w5 (w5.alloc (.cells #[.int .u8 yk] 5)) := (Below.refl _ _).alloc (Nat.le_refl _) _
        refine MixPost.mk (RX.ext b6 (by have := HSZ.out; have := b5.size; omega)) ?_
        replace O2 := Own.keep O2 b6
        have Z3 := Z1.mono b6
        have kc1 : Cs (w5.alloc (.cells #[.int .u8 yk] 5)) (some ⟨w5.heap.size, 0, none⟩) (bcells [UInt8.ofNat yk.toNat]) := by rw [bcells_int yk hk0 hk1]; exact cs_new _ _ _
        refine mix_any 5 rfl (by kernel_rfl) rfl ?_
        go_wp2_with (first | (at_make; refine Stop.un ?_) | (at_builtin; refine Stop.un ?_) | (with_reducible refine Stop.conv 40 9 ?_) | (with_reducible refine Stop.conv 9 40 ?_))
        refine Stop.mk (app_bsx w _ _ rfl rfl O2 rfl rfl (show [UInt8.ofNat yk.toNat].length = 1 from rfl) kc1 (by omega) ?_)
        intro ao8 cap8 w8 o8 g8 _
        go_wp2_with (first | (at_make; refine Stop.un ?_) | (at_builtin; refine Stop.un ?_) | (with_reducible refine Stop.conv 40 9 ?_) | (with_reducible refine Stop.conv 9 40 ?_))
        refine MixPost.mk (RX.grown g8 (by have := HSZ.out; have := b5.size; have := b6.size; omega) (fun k hk => .inl (by have := GE.out k hk; have := HSZ.out; have := b5.size; have := b6.size; omega))) ?_
        refine mix_quiet (Keeps.rx (wc.heap.size) none) 6 rfl (by kernel_rfl) rfl ?_
        intro ι U hne hU
        go_big_quiet_op
        clear hU hne U ι
        show wpAnyM _ _ _ _ _ _ _ _ _
        refine mix_end (by kernel_rfl) ?_
        go_wp2_with (first | (at_make; refine Stop.un ?_) | (at_builtin; refine Stop.un ?_) | (with_reducible refine Stop.conv 40 9 ?_) | (with_reducible refine Stop.conv 9 40 ?_))
        go_meet
        refine ⟨_, _, _, rfl, rfl, o8, Z3.grown g8 (fun e => by have := GE.out _ e.symm; have := hz; have := HSZ.out; have := b5.size; omega)⟩
      ·
        go_wp2_with (first | (at_make; refine Stop.un ?_) | (at_builtin; refine Stop.un ?_) | (with_reducible refine Stop.conv 40 9 ?_) | (with_reducible refine Stop.conv 9 40 ?_))
        have b5 : Below xq.heap.size xq (xq.alloc (.cells #[.int .u8 yk] 5)) := (Below.refl _ _).alloc (Nat.le_refl _) _
        refine MixPost.mk (RX.ext b5 (by have := HSZ.out; omega)) ?_
        replace Z1 := Z1.mono b5
        replace B1 := B1.next b5
        replace hc2 := hc2.mono b5 (Nat.le_refl _)
        have kc0 : Cs (xq.alloc (.cells #[.int .u8 yk] 5)) (some ⟨xq.heap.size, 0, none⟩) (bcells [UInt8.ofNat yk.toNat]) := by rw [bcells_int yk hk0 hk1]; exact cs_new _ _ _
        refine mix_any 1 rfl (by kernel_rfl) rfl ?_
        go_wp2_with (first | (at_make; refine Stop.un ?_) | (at_builtin; refine Stop.un ?_) | (with_reducible refine Stop.conv 40 9 ?_) | (with_reducible refine Stop.conv 9 40 ?_))
        refine Stop.mk (app_nil w _ _ rfl rfl B1 rfl rfl Hm.out hc2 (by omega) ?_)
        intro ao5 cap5 w6 O2 b6 GE0
        have GE := Lib.hid GE0
        clear GE0
        go_wp2_with (first | (at_make; refine Stop.un ?_) | (at_builtin; refine Stop.un ?_) | (with_reducible refine Stop.conv 40 9 ?_) | (with_reducible refine Stop.conv 9 40 ?_))
        refine MixPost.mk (RX.ext b6 (by have := HSZ.out; have := b5.size; omega)) ?_
        have Z3 := Z1.mono b6
        have kc1 := kc0.mono b6 (Nat.le_refl _)
        refine mix_any 5 rfl (by kernel_rfl) rfl ?_
        go_wp2_with (first | (at_make; refine Stop.un ?_) | (at_builtin; refine Stop.un ?_) | (with_reducible refine Stop.conv 40 9 ?_) | (with_reducible refine Stop.conv 9 40 ?_))
        refine Stop.mk (app_bsx w _ _ rfl rfl O2 rfl rfl (show [UInt8.ofNat yk.toNat].length = 1 from rfl) kc1 (by omega) ?_)
        intro ao8 cap8 w8 o8 g8 _
        go_wp2_with (first | (at_make; refine Stop.un ?_) | (at_builtin; refine Stop.un ?_) | (with_reducible refine Stop.conv 40 9 ?_) | (with_reducible refine Stop.conv 9 40 ?_))
        refine MixPost.mk (RX.grown g8 (by have := HSZ.out; have := b5.size; have := b6.size; omega) (fun k hk => .inl (by have := GE.out k hk; have := HSZ.out; have := b5.size; have := b6.size; omega))) ?_
        refine mix_quiet (Keeps.rx (wc.heap.size) none) 6 rfl (by kernel_rfl) rfl ?_
        intro ι U hne hU
        go_big_quiet_op
        clear hU hne U ι
        show wpAnyM _ _ _ _ _ _ _ _ _
        refine mix_end (by kernel_rfl) ?_
        go_wp2_with (first | (at_make; refine Stop.un ?_) | (at_builtin; refine Stop.un ?_) | (with_reducible refine Stop.conv 40 9 ?_) | (with_reducible refine Stop.conv 9 40 ?_))
        go_meet
        refine ⟨_, _, _, rfl, rfl, o8, Z3.grown g8 (fun e => by have := GE.out _ e.symm; have := hz; have := HSZ.out; have := b5.size; omega)⟩
    case rest =>
      obtain ⟨ao2, n2, cap2, hn2, rfl, O2, Z2⟩ := hcut
      obtain ⟨e0, e1, e2, hz⟩ := Z2.open_
      have HO := Lib.hid (OwnB.length O2)
      clear Z1 B1
      have hle : n2 ≤ 140737488350001 := by omega
      have HN2 := Lib.hid hn2
      clear hn2
      rcases HC.out with h | h | h | h | ⟨hs, h⟩
      · simp only [V.zero, V.mk.injEq] at h
        obtain ⟨rfl, rfl, rfl⟩ := h
        go_wp2_with (first | (at_make; refine Stop.un ?_) | (at_builtin; refine Stop.un ?_) | (with_reducible refine Stop.conv 40 9 ?_) | (with_reducible refine Stop.conv 9 40 ?_))
        go_ret
        exact ⟨_, _, _, by have := HO.out; simpa [tailV] using this, rfl, by simpa [tailV] using O2⟩
      · simp only [V.zero, V.mk.injEq] at h
        obtain ⟨rfl, rfl, rfl⟩ := h
        go_wp2_with (first | (at_make; refine Stop.un ?_) | (at_builtin; refine Stop.un ?_) | (with_reducible refine Stop.conv 40 9 ?_) | (with_reducible refine Stop.conv 9 40 ?_))
        refine (int_any _ _ _ _ _ _ (Own.cs O2) HO.out (by omega) (by decide) (by decide)).mono ?_
        rintro e w9 ⟨a9, n9, c9, h9, rfl, o9⟩
        have H9 := Lib.hid h9
        clear h9 e0 e1 e2
        go_wp2_with (first | (at_make; refine Stop.un ?_) | (at_builtin; refine Stop.un ?_) | (with_reducible refine Stop.conv 40 9 ?_) | (with_reducible refine Stop.conv 9 40 ?_))
        go_ret
        exact ⟨a9, n9, c9, by have := H9.out; simpa [tailV] using this, rfl, by have this : OwnB w w9 _ _ _ := Own.up o9 (Own.below O2); simpa [tailV] using this⟩
      · simp only [V.zero, V.mk.injEq] at h
        obtain ⟨rfl, rfl, rfl⟩ := h
        go_wp2_with (first | (at_make; refine Stop.un ?_) | (at_builtin; refine Stop.un ?_) | (with_reducible refine Stop.conv 40 9 ?_) | (with_reducible refine Stop.conv 9 40 ?_))
        refine (int_any _ _ _ _ _ _ (Own.cs O2) HO.out (by omega) (by decide) (by decide)).mono ?_
        rintro e w9 ⟨a9, n9, c9, h9, rfl, o9⟩
        have H9 := Lib.hid h9
        clear h9 e0 e1 e2
        go_wp2_with (first | (at_make; refine Stop.un ?_) | (at_builtin; refine Stop.un ?_) | (with_reducible refine Stop.conv 40 9 ?_) | (with_reducible refine Stop.conv 9 40 ?_))
        go_ret
        exact ⟨a9, n9, c9, by have := H9.out; simpa [tailV] using this, rfl, by have this : OwnB w w9 _ _ _ := Own.up o9 (Own.below O2); simpa [tailV] using this⟩
      · simp only [V.zero, V.mk.injEq] at h
        obtain ⟨rfl, rfl, rfl⟩ := h
        go_wp2_with (first | (at_make; refine Stop.un ?_) | (at_builtin; refine Stop.un ?_) | (with_reducible refine Stop.conv 40 9 ?_) | (with_reducible refine Stop.conv 9 40 ?_))
        refine (int_any _ _ _ _ _ _ (Own.cs O2) HO.out (by omega) HN.out.1 HN.out.2).mono ?_
        rintro e w9 ⟨a9, n9, c9, h9, rfl, o9⟩
        have H9 := Lib.hid h9
        clear h9 e0 e1 e2
        go_wp2_with (first | (at_make; refine Stop.un ?_) | (at_builtin; refine Stop.un ?_) | (with_reducible refine Stop.conv 40 9 ?_) | (with_reducible refine Stop.conv 9 40 ?_))
        go_ret
        exact ⟨a9, n9, c9, by have := H9.out; simpa [tailV] using this, rfl, by have this : OwnB w w9 _ _ _ := Own.up o9 (Own.below O2); simpa [tailV] using this⟩
      · simp only [V.zero, V.mk.injEq] at h
        obtain ⟨rfl, rfl, rfl⟩ := h
        have hs9 : ys.size ≤ 1024 := hs
        go_wp2_with (first | (at_make; refine Stop.un ?_) | (at_builtin; refine Stop.un ?_) | (with_reducible refine Stop.conv 40 9 ?_) | (with_reducible refine Stop.conv 9 40 ?_))
        refine (box_x _ _ _ _).mono ?_
        rw [show boxV ⟨3, 0, ys⟩ = .iface 9 (.string ys) from by simp [boxV, hs9]]
        rintro e w8 ⟨rfl, b8⟩
        have O8 := Own.keep O2 b8
        clear O2 b8 e0 e1 e2
        go_wp2_with (first | (at_make; refine Stop.un ?_) | (at_builtin; refine Stop.un ?_) | (with_reducible refine Stop.conv 40 9 ?_) | (with_reducible refine Stop.conv 9 40 ?_))
        refine (word_y _ _).mono ?_
        rintro e w7 ⟨rfl, rfl⟩
        go_wp2_with (first | (at_make; refine Stop.un ?_) | (at_builtin; refine Stop.un ?_) | (with_reducible refine Stop.conv 40 9 ?_) | (with_reducible refine Stop.conv 9 40 ?_))
        refine (text_any _ _ _ _ _ _ (Own.cs O8) HO.out (by omega)).mono ?_
        rintro e w9 ⟨a9, n9, c9, h9, rfl, o9⟩
        have H9 := Lib.hid h9
        clear h9
        go_wp2_with (first | (at_make; refine Stop.un ?_) | (at_builtin; refine Stop.un ?_) | (with_reducible refine Stop.conv 40 9 ?_) | (with_reducible refine Stop.conv 9 40 ?_))
        go_ret
        exact ⟨a9, n9, c9, by have := H9.out; simpa [tailV] using this, rfl, by have this : OwnB w w9 _ _ _ := Own.up o9 (Own.below O8); simpa [tailV] using this⟩
end Go.Proofs.Ytdpmaocbfmgmlaa
