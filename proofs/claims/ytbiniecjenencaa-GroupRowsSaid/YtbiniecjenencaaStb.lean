/- The library's stable sort, of any number of rows. -/
import Derived.Test.YtbiniecjenencaaSymM
import Derived.Test.YtbiniecjenencaaOSort
set_option linter.unusedVariables false
set_option linter.unusedSimpArgs false
set_option maxRecDepth 10000
namespace Go.Proofs.Ytbiniecjenencaa
open Go.RowKit
theorem sym_any (g0 B h : Nat) (ak : Option Addr) (p ck : Nat) (ks : List Ky) (n cap : Nat) (hnc : n ≤ cap) (hcap : cap ≤ 140737488355328) (N : Nat) : ∀ (P X Y Q : List Rw) (W : World), X.length + Y.length ≤ N → Srt g0 B h ak p ck ks W (P ++ (X ++ (Y ++ Q))) → (P ++ (X ++ (Y ++ Q))).length = n → Asc (rcmp ks) X → Asc (rcmp ks) Y → 0 < X.length → 0 < Y.length → ∀ a m b : Nat, P.length = a → a + X.length = m → m + Y.length = b →
      Calls Try.prog 58 #[.slice (some ⟨g0, 0, none⟩) n cap, .int .i64 (a : Int), .int .i64 (m : Int), .int .i64 (b : Int), cmpF h] W (fun e w' => e = .returned (.tuple #[]) ∧ Srt g0 B h ak p ck ks w' (P ++ mergeS (rcmp ks) X Y ++ Q) ∧ RX B (some g0) W w') := by
  induction N with
  | zero => intro P X Y Q W hN; intros; omega
  | succ N ih =>
    intro P X Y Q W hN hs hn hX hY x0 y0 a m b ha hm hb
    rcases Nat.lt_or_ge 1 X.length with h1 | h1
    · rcases Nat.lt_or_ge 1 Y.length with h2 | h2
      · exact sym_mid g0 B h ak p ck ks n cap hnc hcap P X Y Q W hs hn hX hY h1 h2 (fun P' X' Y' Q' W' hs' hn' hX' hY' x0' y0' hlt => ih P' X' Y' Q' W' (by omega) hs' hn' hX' hY' x0' y0') a m b ha hm hb
      · match Y, y0, h2 with
        | [y], _, _ =>
          simp only [List.cons_append, List.nil_append] at hs hn
          exact sym_right g0 B h ak p ck ks n cap hnc hcap P X y Q W hs hn hX h1 a m b ha hm (by simpa using hb)
    · match X, x0, h1 with
      | [x], _, _ =>
        simp only [List.cons_append, List.nil_append] at hs hn
        exact sym_left g0 B h ak p ck ks n cap hnc hcap P x Y Q W hs hn hY y0 a m b ha (by simpa using hm) hb
theorem rasc (ks : List Ky) (S : List Rw) : Asc (rcmp ks) (sortB (rcmp ks) S) := sortB_asc (rcmp ks) (rneg ks) (rtr ks) S
set_option maxRecDepth 100000 in
set_option maxHeartbeats 8000000 in
theorem stable_any (g0 B h : Nat) (ak : Option Addr) (p ck : Nat) (ks : List Ky) (n cap : Nat) (rows : List Rw) (w : World) (hs : Srt g0 B h ak p ck ks w rows) (hn : rows.length = n) (hnc : n ≤ cap) (hcap : cap ≤ 140737488355328) :
    Calls Try.prog 53 #[.slice (some ⟨g0, 0, none⟩) n cap, .int .i64 (n : Int), cmpF h] w (fun e w' => e = .returned (.tuple #[]) ∧ Srt g0 B h ak p ck ks w' (sortB (rcmp ks) rows) ∧ RX B (some g0) w w') := by
  have HI := Lib.hid (fun (P M Q : List Rw) (W : World) hs hn a b ha hb => insertion_any g0 B h ak p ck ks n cap P M Q W hs hn hnc hcap a b ha hb)
  have HM := Lib.hid (fun (P X Y Q : List Rw) (W : World) hs hn hX hY hx hy a m b ha hm hb => sym_any g0 B h ak p ck ks n cap hnc hcap (X.length + Y.length) P X Y Q W (Nat.le_refl _) hs hn hX hY hx hy a m b ha hm hb)
  have HN := Lib.hid hn
  have hx : RX B (some g0) w w := RX.refl _
  have hst : ∃ P R, rows = P ++ R ∧ P.length = 0 ∧ P.length + R.length = n ∧ blkS (rcmp ks) 20 rows = P ++ blkS (rcmp ks) 20 R := ⟨[], rows, rfl, rfl, by simpa using hn, rfl⟩
  have HST := Lib.hid hst
  have HB1 := Lib.hid (blkS_length (rcmp ks) 20 rows.length rows (Nat.le_refl _))
  obtain ⟨M0, hM0⟩ : ∃ M0, M0 = rows := ⟨_, rfl⟩
  rw [show blkS (rcmp ks) 20 rows = blkS (rcmp ks) 20 M0 by rw [hM0]] at HST
  rw [show sortB (rcmp ks) rows = sortB (rcmp ks) M0 by rw [hM0]]
  have HN0 : Hid (M0.length = n) := Lib.hid (by rw [hM0]; exact hn)
  obtain ⟨wo, hwo⟩ : ∃ wo : World, wo = w := ⟨_, rfl⟩
  rw [show RX B (some g0) w w = RX B (some g0) wo w by rw [hwo]] at hx
  suffices hgoal : Calls Try.prog 53 #[.slice (some ⟨g0, 0, none⟩) n cap, .int .i64 (n : Int), cmpF h] w (fun e w' => e = .returned (.tuple #[]) ∧ Srt g0 B h ak p ck ks w' (sortB (rcmp ks) M0) ∧ RX B (some g0) wo w') by rw [hwo] at hgoal; exact hgoal
  clear hn hst hwo hM0 HN HB1
  unfold cmpF at HI HM ⊢
  go_enter Try.func53, Try.ntmps53
  go_wp2_with (first | (at_make; refine Stop.un ?_) | (at_builtin; refine Stop.un ?_) | (with_reducible refine Stop.conv 22 9 ?_) | (with_reducible refine Stop.conv 9 22 ?_))
  go_loopw [7, 8] (fun u v wr => ∃ a b : Nat, a ≤ n ∧ b ≤ a + 20 ∧ a + 20 ≤ b ∧ u = .int .i64 (a : Int) ∧ v = .int .i64 (b : Int) ∧ (∃ rows, Srt g0 B h ak p ck ks wr rows ∧ Hid (∃ P R, rows = P ++ R ∧ P.length = a ∧ P.length + R.length = n ∧ blkS (rcmp ks) 20 M0 = P ++ blkS (rcmp ks) 20 R)) ∧ RX B (some g0) wo wr) (fun u _ _ => n - (intOf u).toNat)
  case atStart => exact ⟨0, 20, Nat.zero_le _, Nat.le_refl _, Nat.le_refl _, rfl, rfl, ⟨_, hs, HST⟩, hx⟩
  case round =>
    clear HST hs hx
    obtain ⟨a, b, h1, h2, h3, rfl, rfl, ⟨rows, hs, HS⟩, hx⟩ := hrel
    obtain ⟨P, R, e1, e2, e3, e4⟩ := HS.out
    subst e1
    by_cases hlt : b ≤ n
    · have hd : decide ((b : Int) ≤ (n : Int)) = true := decide_eq_true (by omega)
      have hr0 : P ++ R = P ++ R.take 20 ++ R.drop 20 := by rw [List.append_assoc, List.take_append_drop]
      rw [blkS_ge (rcmp ks) 20 R (by omega) (by omega)] at e4
      have hln : (P ++ R.take 20 ++ R.drop 20).length = n := by rw [← hr0, List.length_append]; exact e3
      rw [hr0] at hs
      have hcall := HI.out P (R.take 20) (R.drop 20) wr hs hln a b e2 (by rw [List.length_take]; omega)
      have HF : Hid (∃ P' R', P ++ sortB (rcmp ks) (R.take 20) ++ R.drop 20 = P' ++ R' ∧ P'.length = b ∧ P'.length + R'.length = n ∧ blkS (rcmp ks) 20 M0 = P' ++ blkS (rcmp ks) 20 R') := Lib.hid ⟨P ++ sortB (rcmp ks) (R.take 20), R.drop 20, rfl, by rw [List.length_append, sortB_length, List.length_take]; omega, by rw [List.length_append, sortB_length, List.length_take, List.length_drop]; omega, by rw [e4, List.append_assoc]⟩
      have HCA := Lib.hid hcall
      clear hcall hs HS e2 e3 e4 hr0 hln
      go_wp2_with (first | (at_make; refine Stop.un ?_) | (at_builtin; refine Stop.un ?_) | (with_reducible refine Stop.conv 22 9 ?_) | (with_reducible refine Stop.conv 9 22 ?_))
      refine HCA.out.mono ?_
      rintro e w1 ⟨rfl, s1, x1⟩
      replace hx := hx.trans x1
      clear HCA x1
      go_wp2_with (first | (at_make; refine Stop.un ?_) | (at_builtin; refine Stop.un ?_) | (with_reducible refine Stop.conv 22 9 ?_) | (with_reducible refine Stop.conv 9 22 ?_))
      go_roundw
      case rel => exact ⟨b, b + 20, hlt, Nat.le_refl _, Nat.le_refl _, rfl, by go_num, ⟨_, s1, HF⟩, hx⟩
      case measure => simp [intOf]; omega
    · have hd : decide ((b : Int) ≤ (n : Int)) = false := decide_eq_false (by omega)
      have hcall := HI.out P R [] wr (by simpa using hs) (by simp; omega) a n e2 (by omega)
      rw [List.append_nil, ← blkS_lt (rcmp ks) 20 R (by omega), ← e4] at hcall
      have HCA := Lib.hid hcall
      clear hcall hs HS e2 e3 e4 HI
      go_wp2_with (first | (at_make; refine Stop.un ?_) | (at_builtin; refine Stop.un ?_) | (with_reducible refine Stop.conv 22 9 ?_) | (with_reducible refine Stop.conv 9 22 ?_))
      refine HCA.out.mono ?_
      rintro e w1 ⟨rfl, s1, x1⟩
      replace hx := hx.trans x1
      clear HCA x1
      go_wp2_with (first | (at_make; refine Stop.un ?_) | (at_builtin; refine Stop.un ?_) | (with_reducible refine Stop.conv 22 9 ?_) | (with_reducible refine Stop.conv 9 22 ?_))
      go_loopw [6] (fun u wr => ∃ bs : Nat, 0 < bs ∧ bs ≤ 2 * n + 20 ∧ u = .int .i64 (bs : Int) ∧ Srt g0 B h ak p ck ks wr (blkS (rcmp ks) bs M0) ∧ RX B (some g0) wo wr) (fun u _ => n - (intOf u).toNat)
      case atStart => exact ⟨20, by omega, by omega, rfl, s1, hx⟩
      case round =>
        clear s1 hx hd
        obtain ⟨bs, hb0, hb1, rfl, hs, hx⟩ := hrel
        by_cases hbn : bs < n
        · have hd : decide ((bs : Int) < (n : Int)) = true := decide_eq_true (by omega)
          have hst : ∃ P R, blkS (rcmp ks) bs M0 = P ++ blkS (rcmp ks) bs R ∧ P.length = 0 ∧ P.length + R.length = n ∧ blkS (rcmp ks) (2 * bs) M0 = P ++ blkS (rcmp ks) (2 * bs) R := ⟨[], M0, rfl, rfl, by simpa using HN0.out, rfl⟩
          have HST := Lib.hid hst
          clear hst
          generalize blkS (rcmp ks) bs M0 = rows at hs HST
          go_wp2_with (first | (at_make; refine Stop.un ?_) | (at_builtin; refine Stop.un ?_) | (with_reducible refine Stop.conv 22 9 ?_) | (with_reducible refine Stop.conv 9 22 ?_))
          go_loopw [7, 8] (fun u v wr => ∃ a b : Nat, a ≤ n ∧ b ≤ a + 2 * bs ∧ a + 2 * bs ≤ b ∧ u = .int .i64 (a : Int) ∧ v = .int .i64 (b : Int) ∧ (∃ rows, Srt g0 B h ak p ck ks wr rows ∧ Hid (∃ P R, rows = P ++ blkS (rcmp ks) bs R ∧ P.length = a ∧ P.length + R.length = n ∧ blkS (rcmp ks) (2 * bs) M0 = P ++ blkS (rcmp ks) (2 * bs) R)) ∧ RX B (some g0) wo wr) (fun u _ _ => n - (intOf u).toNat)
          case atStart => exact ⟨0, 2 * bs, Nat.zero_le _, by omega, by omega, rfl, by go_num, ⟨_, hs, HST⟩, hx⟩
          case round =>
            clear HST hs hx
            obtain ⟨a, b, h1, h2, h3, rfl, rfl, ⟨rows, hs, HS⟩, hx⟩ := hrel
            obtain ⟨P, R, e1, e2, e3, e4⟩ := HS.out
            subst e1
            clear HS
            have hln : (P ++ blkS (rcmp ks) bs R).length = n := by rw [List.length_append, blkS_length (rcmp ks) bs R.length R (Nat.le_refl _)]; exact e3
            by_cases hlt : b ≤ n
            · have hd2 : decide ((b : Int) ≤ (n : Int)) = true := decide_eq_true (by omega)
              rw [blkS_two (rcmp ks) bs R (by omega) hb0, List.append_assoc] at hs hln
              rw [blkS_dbl (rcmp ks) (rneg ks) (rtr ks) bs R (by omega) hb0] at e4
              have kX : (sortB (rcmp ks) (R.take bs)).length = bs := by rw [sortB_length, List.length_take]; omega
              have kY : (sortB (rcmp ks) ((R.drop bs).take bs)).length = bs := by rw [sortB_length, List.length_take, List.length_drop]; omega
              have aX := rasc ks (R.take bs)
              have aY := rasc ks ((R.drop bs).take bs)
              generalize sortB (rcmp ks) (R.take bs) = X at hs hln e4 kX aX
              generalize sortB (rcmp ks) ((R.drop bs).take bs) = Y at hs hln e4 kY aY
              have hcall := HM.out P X Y (blkS (rcmp ks) bs (R.drop (2 * bs))) wr hs hln aX aY (by omega) (by omega) a (a + bs) b e2 (by omega) (by omega)
              rw [show ((a + bs : Nat) : Int) = (a : Int) + (bs : Int) by omega] at hcall
              have HF : Hid (∃ P' R', P ++ mergeS (rcmp ks) X Y ++ blkS (rcmp ks) bs (R.drop (2 * bs)) = P' ++ blkS (rcmp ks) bs R' ∧ P'.length = b ∧ P'.length + R'.length = n ∧ blkS (rcmp ks) (2 * bs) M0 = P' ++ blkS (rcmp ks) (2 * bs) R') := Lib.hid ⟨P ++ mergeS (rcmp ks) X Y, R.drop (2 * bs), rfl, by rw [List.length_append, mergeS_length]; omega, by rw [List.length_append, mergeS_length, List.length_drop]; omega, by rw [e4, List.append_assoc]⟩
              have HCA := Lib.hid hcall
              clear hcall hs e2 e3 e4 hln kX kY aX aY
              go_wp2_with (first | (at_make; refine Stop.un ?_) | (at_builtin; refine Stop.un ?_) | (with_reducible refine Stop.conv 22 9 ?_) | (with_reducible refine Stop.conv 9 22 ?_))
              refine HCA.out.mono ?_
              rintro e w1 ⟨rfl, s1, x1⟩
              replace hx := hx.trans x1
              clear HCA x1
              go_wp2_with (first | (at_make; refine Stop.un ?_) | (at_builtin; refine Stop.un ?_) | (with_reducible refine Stop.conv 22 9 ?_) | (with_reducible refine Stop.conv 9 22 ?_))
              go_roundw
              case rel => exact ⟨b, b + 2 * bs, hlt, Nat.le_refl _, Nat.le_refl _, rfl, by go_num, ⟨_, s1, HF⟩, hx⟩
              case measure => simp [intOf]; omega
            · have hd2 : decide ((b : Int) ≤ (n : Int)) = false := decide_eq_false (by omega)
              rw [blkS_lt (rcmp ks) (2 * bs) R (by omega)] at e4
              by_cases hm : a + bs < n
              · have hd3 : decide ((a : Int) + (bs : Int) < (n : Int)) = true := decide_eq_true (by omega)
                rw [blkS_one (rcmp ks) bs R (by omega) (by omega) hb0, ← List.append_nil (sortB (rcmp ks) (R.drop bs))] at hs hln
                have kX : (sortB (rcmp ks) (R.take bs)).length = bs := by rw [sortB_length, List.length_take]; omega
                have kY : (sortB (rcmp ks) (R.drop bs)).length = n - a - bs := by rw [sortB_length, List.length_drop]; omega
                have hcall := HM.out P _ _ [] wr hs hln (rasc ks _) (rasc ks _) (by omega) (by omega) a (a + bs) n e2 (by omega) (by omega)
                rw [show ((a + bs : Nat) : Int) = (a : Int) + (bs : Int) by omega, ← sortB_app (rcmp ks) (rneg ks) (rtr ks), List.take_append_drop, List.append_nil, ← e4] at hcall
                have HCA := Lib.hid hcall
                clear hcall hs e2 e3 e4 hln kX kY
                go_wp2_with (first | (at_make; refine Stop.un ?_) | (at_builtin; refine Stop.un ?_) | (with_reducible refine Stop.conv 22 9 ?_) | (with_reducible refine Stop.conv 9 22 ?_))
                refine HCA.out.mono ?_
                rintro e w1 ⟨rfl, s1, x1⟩
                replace hx := hx.trans x1
                clear HCA x1
                go_wp2_with (first | (at_make; refine Stop.un ?_) | (at_builtin; refine Stop.un ?_) | (with_reducible refine Stop.conv 22 9 ?_) | (with_reducible refine Stop.conv 9 22 ?_))
                go_roundw
                case rel => exact ⟨2 * bs, by omega, by omega, by go_num, s1, hx⟩
                case measure => simp [intOf]; omega
              · have hd3 : decide ((a : Int) + (bs : Int) < (n : Int)) = false := decide_eq_false (by omega)
                rw [blkS_le (rcmp ks) bs R (by omega) hb0, ← e4] at hs
                clear e2 e3 e4 hln
                go_wp2_with (first | (at_make; refine Stop.un ?_) | (at_builtin; refine Stop.un ?_) | (with_reducible refine Stop.conv 22 9 ?_) | (with_reducible refine Stop.conv 9 22 ?_))
                go_roundw
                case rel => exact ⟨2 * bs, by omega, by omega, by go_num, hs, hx⟩
                case measure => simp [intOf]; omega
        · have hd : decide ((bs : Int) < (n : Int)) = false := decide_eq_false (by omega)
          rw [blkS_le (rcmp ks) bs M0 (by have := HN0.out; omega) hb0] at hs
          go_wp2_with (first | (at_make; refine Stop.un ?_) | (at_builtin; refine Stop.un ?_) | (with_reducible refine Stop.conv 22 9 ?_) | (with_reducible refine Stop.conv 9 22 ?_))
          go_end0
          exact ⟨rfl, hs, hx⟩
set_option maxHeartbeats 1000000 in
theorem sortstable_any (g0 B h : Nat) (ak : Option Addr) (p ck : Nat) (ks : List Ky) (n cap : Nat) (rows : List Rw) (w : World) (hs : Srt g0 B h ak p ck ks w rows) (hn : rows.length = n) (hnc : n ≤ cap) (hcap : cap ≤ 140737488355328) :
    Calls Try.prog 40 #[.slice (some ⟨g0, 0, none⟩) n cap, cmpF h] w (fun e w' => e = .returned (.tuple #[]) ∧ Srt g0 B h ak p ck ks w' (sortB (rcmp ks) rows) ∧ RX B (some g0) w w') := by
  have HI := Lib.hid (stable_any g0 B h ak p ck ks n cap rows w hs hn hnc hcap)
  clear hs hn
  unfold cmpF at HI ⊢
  go_enter Try.func40, Try.ntmps40
  go_wp2_with (first | (at_make; refine Stop.un ?_) | (at_builtin; refine Stop.un ?_) | (with_reducible refine Stop.conv 22 9 ?_) | (with_reducible refine Stop.conv 9 22 ?_))
  refine HI.out.mono ?_
  rintro e w1 ⟨rfl, s1, x1⟩
  go_wp2_with (first | (at_make; refine Stop.un ?_) | (at_builtin; refine Stop.un ?_) | (with_reducible refine Stop.conv 22 9 ?_) | (with_reducible refine Stop.conv 9 22 ?_))
  go_end0
  exact ⟨rfl, s1, x1⟩
set_option maxHeartbeats 2000000 in
theorem sort_any (ao : Option Addr) (n cap : Nat) (rows : List Rw) (ak : Option Addr) (p ck : Nat) (ks : List Ky) (w : World) (h : Tab w ao rows) (hn : rows.length = n) (hnc : n ≤ cap) (hcap : cap ≤ maxLen) (h20 : n ≤ 100000) (hr : ∀ r ∈ rows, r.n ≤ 1000000)
    (hk : Cs w ak (kcells ks)) (hl : ks.length = p) (hle : p ≤ ck) (hm : ck ≤ maxLen) :
    Calls Try.prog 26 #[.slice ao n cap, .slice ak p ck] w (RetRows w n (sortL ks (rows.map (·.l)))) := by
  have HO := Lib.hid (fun w h => own_any ao n cap rows w h hn hnc hcap (by omega) hr)
  have HSS := Lib.hid (fun (g B h : Nat) (rs : List Rw) (w : World) (hs : Srt g B h ak p ck ks w rs) (hn : rs.length = n) => sortstable_any g B h ak p ck ks n n rs w hs hn (Nat.le_refl _) (by omega))
  have HN := Lib.hid hn
  have HKL := Lib.hid (And.intro hl (And.intro hle hm))
  have b1 := (Below.refl w.heap.size w).alloc (Nat.le_refl _) (.cells #[.slice ak p ck] 57)
  have z1 := At.new w #[.slice ak p ck] 57
  have h1 := h.mono b1
  have k1 := hk.mono b1 (Nat.le_refl _)
  have hs1 : w.heap.size < (w.alloc (.cells #[.slice ak p ck] 57)).heap.size := z1.lt
  clear hr hn hl hle hm hcap h hk
  go_enter Try.func26, Try.ntmps26
  go_upto_region 1 with fail
  generalize w.alloc (.cells #[.slice ak p ck] 57) = w1 at b1 z1 h1 k1 hs1 ⊢
  go_wp2_with (first | (at_make; refine Stop.un ?_) | (at_builtin; refine Stop.un ?_) | (with_reducible refine Stop.conv 22 9 ?_) | (with_reducible refine Stop.conv 9 22 ?_))
  refine (HO.out _ h1).mono ?_
  rintro e w2 ⟨g, rs, rfl, o2, hrl⟩
  have z2 := z1.mono o2.below
  have HRL := Lib.hid hrl
  have hrn : rs.length = n := by have := congrArg List.length hrl; rw [List.length_map, List.length_map] at this; rw [this]; exact HN.out
  have hS := Srt.of o2 z2 hs1 k1 HKL.out.1 HKL.out.2.1 HKL.out.2.2
  have HR := Lib.hid hrn
  clear hrl hrn h1 z1
  go_wp2_with (first | (at_make; refine Stop.un ?_) | (at_builtin; refine Stop.un ?_) | (with_reducible refine Stop.conv 22 9 ?_) | (with_reducible refine Stop.conv 9 22 ?_))
  refine (HSS.out g w2.heap.size w.heap.size rs w2 hS HR.out).mono ?_
  rintro e w3 ⟨rfl, s3, x3⟩
  go_wp2_with (first | (at_make; refine Stop.un ?_) | (at_builtin; refine Stop.un ?_) | (with_reducible refine Stop.conv 22 9 ?_) | (with_reducible refine Stop.conv 9 22 ?_))
  go_ret
  exact ⟨g, _, rfl, Own2.sorted o2 b1 s3 x3 (sortB_perm (rcmp ks) rs), by rw [sortL_of, HRL.out]⟩
end Go.Proofs.Ytbiniecjenencaa
