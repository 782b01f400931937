/- The reference's Unpack; are both lists? -/
import Derived.Test.YtcjnehlbkjpgbaaUnpack
set_option linter.unusedVariables false
set_option linter.unusedSimpArgs false
namespace Go.Proofs.Ytcjnehlbkjpgbaa
open Go.RowKit
theorem ucs_new (w : World) (v : Value) (e : TypeId) : Cs (w.alloc (.cells #[v] e)) (some ⟨w.heap.size, 0, none⟩) [v] := by
  intro j u hj
  match j, hj with
  | 0, hj => simp at hj; subst hj; exact ⟨_, _, rfl, by simp⟩
theorem app_us {w : World} {ops : Array Oper} {rest : List Oper} {o : Oper} {a : Act} {Q : Exit → Act → World → Prop} (w0 : World) (s x : Operand)
    (hgd : Region.wanted o (yielded ops a.tmps) = true) (ho : o.op = .call { callee := .builtin .append, args := #[s, x], argTypes := #[22, 22] })
    {v : Value} {n : Nat} {l : List Nat} (hown : OwnU w0 w v n l) (hs : a.eval s = v)
    {ao : Option Addr} {m cap : Nat} {news : List Nat} (hx : a.eval x = .slice ao m cap) (hm : news.length = m) (hc : Cs w ao (ucells news)) (hb : (n + m) * 8 ≤ 140737488355328)
    (h : ∀ ao cap w', OwnU w0 w' (.slice ao (n + m) cap) (n + m) (l ++ news) → w.grownBy w' v.ownBlock → (∀ k, (Value.slice ao (n + m) cap).ownBlock = some k → v.ownBlock = some k ∨ w.heap.size ≤ k) → wpList Try.prog ops Q rest (a.put o.dst (.slice ao (n + m) cap)) w') :
    wpList Try.prog ops Q (o :: rest) a w :=
  wpList_append_Own w0 47 (.int .u64 0) 1 8 Try.infoU64 rfl (by decide) s x 22 22 Try.underlying22 hgd ho v n (ucells l) hown hs _ m (ucells news) hx
    (Src.ofCs Try.underlying22 hc (by simp [ucells_length, hm]) (ucells_one _)) hb (by omega) (fun ao cap w' h1 h2 _ h4 => h ao cap w' (by rw [OwnU, ucells_append]; exact h1) h2 h4)
theorem app_u1 {w : World} {c : Nat} {e : TypeId} {ops : Array Oper} {rest : List Oper} {o : Oper} {a : Act} {Q : Exit → Act → World → Prop} (w0 : World) (s x : Operand)
    (hgd : Region.wanted o (yielded ops a.tmps) = true) (ho : o.op = .call { callee := .builtin .append, args := #[s, x], argTypes := #[22, 22] })
    {v : Value} {n : Nat} {l : List Nat} (hown : OwnU w0 w v n l) (hs : a.eval s = v)
    (hx : a.eval x = .slice (some ⟨w.heap.size, 0, none⟩) 1 1) (hb : (n + 1) * 8 ≤ 140737488355328)
    (h : ∀ ao cap w', OwnU w0 w' (.slice ao (n + 1) cap) (n + 1) (l ++ [c]) → w.grownBy w' v.ownBlock → (∀ k, (Value.slice ao (n + 1) cap).ownBlock = some k → v.ownBlock = some k ∨ w.heap.size ≤ k) → wpList Try.prog ops Q rest (a.put o.dst (.slice ao (n + 1) cap)) w') :
    wpList Try.prog ops Q (o :: rest) a (w.alloc (.cells #[.int .u64 (c : Int)] e)) :=
  app_us w0 s x hgd ho (Own.alloc hown _) hs hx rfl (ucs_new w _ e) hb
    (fun ao cap w' h2 h3 h4 => h ao cap w' h2 ⟨h3.os, h3.tape, h3.output, Nat.le_trans (by simp) h3.size, fun k hk hn => (h3.block k (by simp; omega) hn).trans (Below.heap_alloc _ _ _ hk)⟩
      (fun k hk => (h4 k hk).imp id (fun hh => by simp at hh; omega)))
theorem nof_cons (f : Nat → Bool) : ∀ n, nof f (n + 1) = nof (fun j => f (j + 1)) n * 2 + (f 0).toNat
  | 0 => by simp [nof]
  | n + 1 => by
    rw [nof, nof_cons f n, nof, Nat.pow_succ, Nat.add_mul, Nat.mul_assoc]
    omega
theorem ustep_eq (c g k : Nat) (hg : g < 2 ^ 63) : IntKind.u64.wrap ((g : Int) * 2 + IntKind.u64.wrap (((c : Int) / 2 ^ (k % 8)).tmod 2)) = ((g * 2 + c / 2 ^ (k % 8) % 2 : Nat) : Int) := by
  have e1 : ((c : Int) / 2 ^ (k % 8)) = ((c / 2 ^ (k % 8) : Nat) : Int) := by rw [Int.natCast_ediv, Int.natCast_pow]; rfl
  rw [e1]
  generalize c / 2 ^ (k % 8) = d
  rw [Int.tmod_eq_emod_of_nonneg (Int.natCast_nonneg _), IntKind.wrap_u64, IntKind.wrap_u64]
  omega
set_option maxHeartbeats 1000000 in
theorem runpack_bad (ao : Option Addr) (n cap : Nat) (many width : Int) (w : World) (h : bytE many width ≠ 0) :
    Calls Try.prog 18 #[.slice ao n cap, .int .i64 many, .int .i64 width] w (RetU w [] (bytE many width)) := by
  have HB := Lib.hid (fun w => rbytes_any many width w)
  rw [bytE_bad h] at HB
  generalize bytE many width = er at h HB ⊢
  have he : (er != 0) = true := by simpa using h
  go_enter Try.func18, Try.ntmps18
  go_wp2_with (first | (at_make; refine Stop.un ?_) | (at_builtin; refine Stop.un ?_) | (with_reducible refine Stop.conv 24 9 ?_) | (with_reducible refine Stop.conv 9 24 ?_))
  refine (HB.out _).mono ?_
  rintro e w1 ⟨rfl, rfl⟩
  go_wp2_with (first | (at_make; refine Stop.un ?_) | (at_builtin; refine Stop.un ?_) | (with_reducible refine Stop.conv 24 9 ?_) | (with_reducible refine Stop.conv 9 24 ?_))
  go_ret2
  exact ⟨none, 0, 0, rfl, rfl, Own.nil _ _ (Below.refl _ _)⟩
set_option maxHeartbeats 1000000 in
theorem runpack_len (ao : Option Addr) (n cap : Nat) (many width : Int) (w : World) (h : bytE many width = 0) (hn : (n : Int) ≠ bytN many width) :
    Calls Try.prog 18 #[.slice ao n cap, .int .i64 many, .int .i64 width] w (RetU w [] 6) := by
  have HB := Lib.hid (fun w => rbytes_any many width w)
  rw [h] at HB
  generalize bytN many width = k at hn HB ⊢
  have he : ((n : Int) != k) = true := by simpa using hn
  clear h
  go_enter Try.func18, Try.ntmps18
  go_wp2_with (first | (at_make; refine Stop.un ?_) | (at_builtin; refine Stop.un ?_) | (with_reducible refine Stop.conv 24 9 ?_) | (with_reducible refine Stop.conv 9 24 ?_))
  refine (HB.out _).mono ?_
  rintro e w1 ⟨rfl, rfl⟩
  go_wp2_with (first | (at_make; refine Stop.un ?_) | (at_builtin; refine Stop.un ?_) | (with_reducible refine Stop.conv 24 9 ?_) | (with_reducible refine Stop.conv 9 24 ?_))
  go_ret2
  exact ⟨none, 0, 0, rfl, rfl, Own.nil _ _ (Below.refl _ _)⟩
set_option maxHeartbeats 4000000 in
set_option maxRecDepth 100000 in
theorem runpack_ok (ao : Option Addr) (n cap m W : Nat) (bs : List UInt8) (w : World) (hc : Cs w ao (bcells bs)) (hb : bs.length = n) (hlc : n ≤ cap) (hn : n = (m * W + 7) / 8) (hl : m ≤ 4096) (hW : W ≤ 64) :
    Calls Try.prog 18 #[.slice ao n cap, .int .i64 (m : Int), .int .i64 (W : Int)] w (RetU w (if packB (unpN bs m W) W = bs then unpN bs m W else []) (if packB (unpN bs m W) W = bs then 0 else 6)) := by
  have HB := Lib.hid (fun w => rbytes_any m W w)
  rw [bytE_ok m W hl hW, bytN_ok m W hl hW, ← hn] at HB
  have hT : m * W ≤ 4096 * 64 := Nat.mul_le_mul hl hW
  have hn2 : n ≤ 40000 := by omega
  have HTI : Hid (∀ i, i < m → i * W + W ≤ m * W) := Lib.hid (fun i hi => by have : (i + 1) * W ≤ m * W := Nat.mul_le_mul_right _ hi
                                                                             rw [Nat.add_mul] at this; omega)
  have h64 : 2 ^ W ≤ 2 ^ 64 := Nat.pow_le_pow_right (by decide) hW
  have hul := unpN_lt bs m W
  have huw : widN (unpN bs m W) ≤ W := (widN_le _ W (fun x hx => Nat.lt_of_lt_of_le (hul x hx) h64)).2 hul
  have HPK : Hid (∀ a c w, Cs w a (ucells (unpN bs m W)) → m ≤ c → Calls Try.prog 11 #[.slice a m c, .int .i64 (W : Int)] w (RetP w (packB (unpN bs m W) W) 0)) := Lib.hid (fun a c w hc hm => by
    have h := rpack_any a m c W (unpN bs m W) w hc (unpN_length _ _ _) hm (fun x hx => Nat.lt_of_lt_of_le (hul x hx) h64)
    rwa [packR_ok _ W (by rw [unpN_length]; exact bytE_ok m W hl hW) (by omega), packE_ok _ W (by rw [unpN_length]; exact bytE_ok m W hl hW) (by omega)] at h)
  have HSTEP := Lib.hid (fun i => unpN_step bs i W)
  have HLEN := Lib.hid (fun i => unpN_length bs i W)
  generalize hT' : m * W = T at hn HTI hT
  have HT8 : Hid (∀ p, p < T → p / 8 < n) := Lib.hid (fun p hp => by omega)
  generalize ho : (if packB (unpN bs m W) W = bs then unpN bs m W else []) = out
  generalize her : (if packB (unpN bs m W) W = bs then (0 : Int) else 6) = er
  have HUN : Hid (∀ i, i = m → unpN bs i W = unpN bs m W) := Lib.hid (fun i h => by rw [h])
  have hUL : (unpN bs m W).length = m := unpN_length _ _ _
  generalize hpk : packB (unpN bs m W) W = pk at HPK ho her
  generalize unpN bs m W = un at HPK ho her HUN hUL
  have HUL := Lib.hid hUL
  have HO := Lib.hid ho
  have HER := Lib.hid her
  have HN := Lib.hid hn
  have HB2 := Lib.hid hb
  clear ho her hb hT' hn hul huw h64 hpk hUL
  go_enter Try.func18, Try.ntmps18
  go_wp2_with (first | (at_make; refine Stop.un ?_) | (at_builtin; refine Stop.un ?_) | (with_reducible refine Stop.conv 24 9 ?_) | (with_reducible refine Stop.conv 9 24 ?_))
  refine (HB.out _).mono ?_
  rintro e w1 ⟨rfl, rfl⟩
  go_wp2_with (first | (at_make; refine Stop.un ?_) | (at_builtin; refine Stop.un ?_) | (with_reducible refine Stop.conv 24 9 ?_) | (with_reducible refine Stop.conv 9 24 ?_))
  go_loopw [10, 11] (fun v i wr => ∃ (j : Nat) (a : Option Addr) (c : Nat), j ≤ m ∧ v = .slice a j c ∧ i = .int .i64 (j : Int) ∧ OwnU w wr (.slice a j c) j (unpN bs j W)) (fun _ i _ => m - (intOf i).toNat)
  case atStart => exact ⟨0, none, 0, Nat.zero_le _, rfl, rfl, Own.nil _ _ (Below.refl _ _)⟩
  case round =>
    obtain ⟨i, a, c, hi, rfl, rfl, hO⟩ := hrel
    obtain ⟨wo, rfl⟩ : ∃ wo : World, wo = wr := ⟨_, rfl⟩
    by_cases hlt : i < m
    · have hTI := HTI.out i hlt
      have HST := Lib.hid (HSTEP.out i)
      have HN0 : Hid (∀ d f, d ≤ W → (∀ j, f j = tst bs (i * W + d + j)) → nof f (W - d) < 2 ^ 63 ∨ d = 0) := Lib.hid (fun d f h _ => by
        rcases Nat.eq_zero_or_pos d with h0 | h0
        · exact .inr h0
        · exact .inl (Nat.lt_of_lt_of_le (nof_lt _ _) (Nat.pow_le_pow_right (by decide) (by omega))))
      have HNS : Hid (∀ d k (hk : k / 8 < bs.length), d < W → k = i * W + d → nof (fun j => tst bs (i * W + (d + 1) + j)) (W - (d + 1)) * 2 + (bs[k / 8]).toNat / 2 ^ (k % 8) % 2 = nof (fun j => tst bs (i * W + d + j)) (W - d)) := Lib.hid (fun d k hk h1 h2 => by
        rw [show W - d = (W - (d + 1)) + 1 by omega, nof_cons]
        congr 1
        · congr 1
          exact nof_congr (fun j _ => by congr 1; omega)
        · subst h2
          show _ = (tst bs (i * W + d + 0)).toNat
          rw [tst_in bs _ 0 (by omega) hk, Nat.add_zero, Nat.testBit_eq_decide_div_mod_eq]
          have := Nat.mod_two_eq_zero_or_one ((bs[(i * W + d) / 8]).toNat / 2 ^ ((i * W + d) % 8))
          rcases this with h | h <;> simp [h])
      have HNZ : Hid (nof (fun j => tst bs (i * W + 0 + j)) (W - 0) = nof (fun k => tst bs (i * W + k)) W) := Lib.hid (by rw [Nat.add_zero, Nat.sub_zero])
      have HNW : Hid (∀ d, d = W → nof (fun j => tst bs (i * W + d + j)) (W - d) = 0) := Lib.hid (fun d h => by rw [h, Nat.sub_self]; rfl)
      have HNL : Hid (∀ d, d < W → nof (fun j => tst bs (i * W + (d + 1) + j)) (W - (d + 1)) < 2 ^ 63) := Lib.hid (fun d h => Nat.lt_of_lt_of_le (nof_lt _ _) (Nat.pow_le_pow_right (by decide) (by omega)))
      have hG : ∃ G : Nat → Nat, G = fun d => nof (fun j => tst bs (i * W + d + j)) (W - d) := ⟨_, rfl⟩
      obtain ⟨G, hG⟩ := hG
      have HNS2 : Hid (∀ d k (hk : k / 8 < bs.length), d < W → k = i * W + d → G (d + 1) * 2 + (bs[k / 8]).toNat / 2 ^ (k % 8) % 2 = G d) := by rw [hG]; exact HNS
      have HNZ2 : Hid (G 0 = nof (fun k => tst bs (i * W + k)) W) := by rw [hG]; exact HNZ
      have HNW2 : Hid (∀ d, d = W → G d = 0) := by rw [hG]; exact HNW
      have HNL2 : Hid (∀ d, d < W → G (d + 1) < 2 ^ 63) := by rw [hG]; exact HNL
      clear HNS HNZ HNW HNL hG HN0
      generalize nof (fun k => tst bs (i * W + k)) W = last at HST HNZ2
      generalize hA : i * W = A at HNS2 hTI
      have hAI : (i : Int) * (W : Int) = (A : Int) := by rw [← hA]; simp
      have HAI := Lib.hid hAI
      clear hA hAI
      go_wp2_with (first | (at_make; refine Stop.un ?_) | (at_builtin; refine Stop.un ?_) | (with_reducible refine Stop.conv 24 9 ?_) | (with_reducible refine Stop.conv 9 24 ?_))
      go_loopw [12, 13] (fun x k wr => ∃ (d : Nat), d ≤ W ∧ wr = wo ∧ x = .int .u64 ((G d : Nat) : Int) ∧ k = .int .i64 ((d : Int) - 1)) (fun _ i _ => (intOf i + 1).toNat)
      case atStart => exact ⟨W, Nat.le_refl _, rfl, by rw [HNW2.out W rfl]; rfl, rfl⟩
      case round =>
        obtain ⟨d, hd, rfl, rfl, rfl⟩ := hrel
        by_cases h0 : 0 < d
        · obtain ⟨e, rfl⟩ : ∃ e, d = e + 1 := ⟨d - 1, by omega⟩
          obtain ⟨k, hk⟩ : ∃ k, A + e = k := ⟨_, rfl⟩
          have hkT : k < T := by omega
          have hk8 := HT8.out k hkT
          have hkl : k / 8 < bs.length := by have := HB2.out; omega
          have HS := Lib.hid (HNS2.out e k hkl (by omega) hk.symm)
          have hg63 := HNL2.out e (by omega)
          obtain ⟨b, o, rfl⟩ := hc.addr (by rw [bcells_length]; omega)
          have x1 : wr.cell? ⟨b, o + k / 8, none⟩ = some (.int .u8 ((bs[k / 8]).toNat : Int)) := (hc.mono (Own.below hO) (Nat.le_refl _)).at (bcells_get bs _ hkl)
          have hcl := (bs[k / 8]).toNat_lt
          generalize (bs[k / 8]).toNat = c at HS x1 hcl
          have he1 : (((e + 1 : Nat) : Int) - 1) = (e : Int) := by omega
          have hA0 : 0 ≤ (i : Int) * (W : Int) := by rw [HAI.out]; omega
          have hA1 : (i : Int) * (W : Int) ≤ 300000 := by rw [HAI.out]; omega
          have hai : (i : Int) * (W : Int) + (e : Int) = (k : Int) := by rw [HAI.out]; omega
          have HAIK := Lib.hid hai
          have hk0 : ((k : Int) / 8).toNat = k / 8 := by omega
          have hk00 : 0 ≤ (k : Int) / 8 := by omega
          have hk9 : (k : Int) / 8 < n := by omega
          have HK := Lib.hid hk
          have hkk : k ≤ 300000 := by omega
          generalize G (e + 1) = g1 at HS hg63 ⊢
          clear hk hk8
          rw [he1]
          clear hai
          have ha0 : 0 ≤ (i : Int) * (W : Int) + (e : Int) := by omega
          have ha1 : (i : Int) * (W : Int) + (e : Int) ≤ 300000 := by rw [HAIK.out]; omega
          go_upto_region 15 with fail
          rw [HAIK.out]
          have HV := Lib.hid (ustep_eq c g1 k hg63)
          rw [HS.out] at HV
          go_wp2_with (first | (at_make; refine Stop.un ?_) | (at_builtin; refine Stop.un ?_) | (with_reducible refine Stop.conv 24 9 ?_) | (with_reducible refine Stop.conv 9 24 ?_))
          go_roundw
          case rel => exact ⟨e, by omega, True.intro, by rw [HV.out], by go_num⟩
          case measure => simp [intOf] <;> omega
        · obtain rfl : d = 0 := by omega
          rw [HNZ2.out]
          go_wp2_with (first | (at_make; refine Stop.un ?_) | (at_builtin; refine Stop.un ?_) | (with_reducible refine Stop.conv 24 9 ?_) | (with_reducible refine Stop.conv 9 24 ?_))
          refine Stop.mk (app_u1 w _ _ rfl rfl hO rfl rfl (by omega) ?_)
          intro a6 c6 w9 hO6 hg6 hk6
          rw [← HST.out] at hO6
          clear hO
          go_wp2_with (first | (at_make; refine Stop.un ?_) | (at_builtin; refine Stop.un ?_) | (with_reducible refine Stop.conv 24 9 ?_) | (with_reducible refine Stop.conv 9 24 ?_))
          go_roundw
          case rel => exact ⟨i + 1, a6, c6, by omega, by go_num, by go_num, hO6⟩
          case measure => simp [intOf]; omega
    · have him : i = m := by omega
      subst him
      rw [HUN.out i rfl] at hO
      clear hlt hi
      have hca := owns_le hO.1
      have hm1 := (hc.mono (Own.below hO) (Nat.le_refl _))
      go_wp2_with (first | (at_make; refine Stop.un ?_) | (at_builtin; refine Stop.un ?_) | (with_reducible refine Stop.conv 24 9 ?_) | (with_reducible refine Stop.conv 9 24 ?_))
      refine (HPK.out _ _ _ (Own.cs hO) hca).mono ?_
      rintro e w2 ⟨a2, n2, c2, h2, rfl, o2⟩
      have H2 := Lib.hid h2
      have cs2 := Own.cs o2
      have m2 := hm1.mono (Own.below o2) (Nat.le_refl _)
      have hO2 := Own.keep hO (Own.below o2)
      clear hm1 o2 hO h2
      by_cases hB : pk = bs
      · have h8 := HER.out
        have h9 := HO.out
        rw [if_pos hB] at h8 h9
        have H8 := Lib.hid h8
        have H9 := Lib.hid h9
        rw [hB] at cs2
        have H6 : Hid (bs.length = n2) := Lib.hid (by rw [← H2.out, hB])
        have hbb : (!(strOf bs).toList == (strOf bs).toList) = false := by simp
        clear h8 h9 HER HO hB H2
        go_wp2_with (first | (at_make; refine Stop.un ?_) | (at_builtin; refine Stop.un ?_) | (with_reducible refine Stop.conv 24 9 ?_) | (with_reducible refine Stop.conv 9 24 ?_))
        refine Stop.mk (wpList_conv Try.underlying24 Try.underlying5 Try.underlying9 _ rfl rfl rfl H6.out cs2 ?_)
        clear cs2
        go_wp2_with (first | (at_make; refine Stop.un ?_) | (at_builtin; refine Stop.un ?_) | (with_reducible refine Stop.conv 24 9 ?_) | (with_reducible refine Stop.conv 9 24 ?_))
        refine Stop.mk (wpList_conv Try.underlying24 Try.underlying5 Try.underlying9 _ rfl rfl rfl HB2.out m2 ?_)
        clear m2
        go_wp2_with (first | (at_make; refine Stop.un ?_) | (at_builtin; refine Stop.un ?_) | (with_reducible refine Stop.conv 24 9 ?_) | (with_reducible refine Stop.conv 9 24 ?_))
        go_ret2
        rw [← H8.out, ← H9.out]
        exact ⟨_, _, _, HUL.out, rfl, hO2⟩
      · have h8 := HER.out
        have h9 := HO.out
        rw [if_neg hB] at h8 h9
        have H8 := Lib.hid h8
        have H9 := Lib.hid h9
        have hbb : (!(strOf pk).toList == (strOf bs).toList) = true := by rw [strOf_toList', strOf_toList']; simpa using hB
        clear h8 h9 HER HO hB
        go_wp2_with (first | (at_make; refine Stop.un ?_) | (at_builtin; refine Stop.un ?_) | (with_reducible refine Stop.conv 24 9 ?_) | (with_reducible refine Stop.conv 9 24 ?_))
        refine Stop.mk (wpList_conv Try.underlying24 Try.underlying5 Try.underlying9 _ rfl rfl rfl H2.out cs2 ?_)
        clear cs2
        go_wp2_with (first | (at_make; refine Stop.un ?_) | (at_builtin; refine Stop.un ?_) | (with_reducible refine Stop.conv 24 9 ?_) | (with_reducible refine Stop.conv 9 24 ?_))
        refine Stop.mk (wpList_conv Try.underlying24 Try.underlying5 Try.underlying9 _ rfl rfl rfl HB2.out m2 ?_)
        clear m2
        go_wp2_with (first | (at_make; refine Stop.un ?_) | (at_builtin; refine Stop.un ?_) | (with_reducible refine Stop.conv 24 9 ?_) | (with_reducible refine Stop.conv 9 24 ?_))
        go_ret2
        rw [← H8.out, ← H9.out]
        exact ⟨none, 0, 0, rfl, rfl, Own.nil _ _ (Own.below hO2)⟩
theorem runpack_any (ao : Option Addr) (n cap : Nat) (many width : Int) (bs : List UInt8) (w : World) (hc : Cs w ao (bcells bs)) (hb : bs.length = n) (hlc : n ≤ cap) :
    Calls Try.prog 18 #[.slice ao n cap, .int .i64 many, .int .i64 width] w (RetU w (unpR bs many width) (unpE bs many width)) := by
  by_cases h : bytE many width = 0
  · obtain ⟨h1, h2, h3, h4⟩ := bytE_range _ _ h
    obtain ⟨W, rfl⟩ := Int.eq_ofNat_of_zero_le h2
    obtain ⟨m, rfl⟩ := Int.eq_ofNat_of_zero_le h1
    by_cases hn : (bs.length : Int) = bytN m W
    · rw [unpR_ok bs m W h hn, unpE_ok bs m W h hn]
      exact runpack_ok ao n cap m W bs w hc hb hlc (by rw [bytN_ok m W (by omega) (by omega), hb] at hn; omega) (by omega) (by omega)
    · have e := unpE_len bs m W h hn
      rw [unpR_no _ _ _ (by rw [e]; decide), e]
      exact runpack_len ao n cap m W w h (by rw [← hb]; exact hn)
  · rw [unpR_no _ _ _ (by rw [unpE_bad _ _ _ h]; exact h), unpE_bad _ _ _ h]
    exact runpack_bad ao n cap many width w h
theorem ucs_getD {w : World} {b o : Nat} {zs : List Nat} (hc : Cs w (some ⟨b, o, none⟩) (ucells zs)) {j : Nat} (hj : j < zs.length) : w.cell? ⟨b, o + j, none⟩ = some (.int .u64 ((zs.getD j 0 : Nat) : Int)) :=
  hc.at (by simp [ucells, hj])
set_option maxHeartbeats 1000000 in
theorem numsEq_any (ao bo : Option Addr) (m cap cap' : Nat) (zs : List Nat) (w : World) (hc : Cs w ao (ucells zs)) (hd : Cs w bo (ucells zs)) (hm : zs.length = m) (hl : m ≤ 9223372036854775807) (hlc : m ≤ cap) (hlc' : m ≤ cap') :
    Calls Try.prog 19 #[.slice ao m cap, .slice bo m cap'] w (fun e w' => e = .returned (.bool true) ∧ Below w.heap.size w w') := by
  have HM := Lib.hid hm; clear hm
  have hmm : (!(m : Int) == (m : Int)) = false := by simp
  go_enter Try.func19, Try.ntmps19
  go_wp2_with (first | (at_make; refine Stop.un ?_) | (at_builtin; refine Stop.un ?_))
  go_loopw [5] (fun c wr => ∃ (j : Nat), j ≤ m ∧ c = .int .i64 (j : Int) ∧ Below w.heap.size w wr) (fun c _ => m - (intOf c).toNat)
  case atStart => exact ⟨0, by omega, rfl, Below.refl _ _⟩
  case round =>
    obtain ⟨j, hj, rfl, hb⟩ := hrel
    by_cases hlt : j < m
    · obtain ⟨b, o, rfl⟩ := hc.addr (by rw [ucells_length]; have := HM.out; omega)
      obtain ⟨b', o', rfl⟩ := hd.addr (by rw [ucells_length]; have := HM.out; omega)
      have h1 := ucs_getD (hc.mono hb (Nat.le_refl _)) (j := j) (by have := HM.out; omega)
      have h2 := ucs_getD (hd.mono hb (Nat.le_refl _)) (j := j) (by have := HM.out; omega)
      generalize zs.getD j 0 = x at h1 h2
      have hx : ((x : Int) != (x : Int)) = false := by simp
      clear hc hd
      go_wp2_with (first | (at_make; refine Stop.un ?_) | (at_builtin; refine Stop.un ?_))
      refine mix_startE 9 rfl (by kernel_rfl) ?_
      intro x1 hx1
      refine mix_quiet Keeps.ext 0 rfl (by kernel_rfl) rfl ?_
      intro ι U hne hU
      go_big_quiet_op
      clear hU hne U ι
      show wpAnyM _ _ _ _ _ _ _ _ _
      refine mix_quiet Keeps.ext 1 rfl (by kernel_rfl) rfl ?_
      intro ι U hne hU
      go_big_quiet_op
      clear hU hne U ι
      show wpAnyM _ _ _ _ _ _ _ _ _
      refine mix_quiet Keeps.ext 2 rfl (by kernel_rfl) rfl ?_
      intro ι U hne hU
      go_big_quiet_op
      clear hU hne U ι
      show wpAnyM _ _ _ _ _ _ _ _ _
      refine mix_quiet Keeps.ext 3 rfl (by kernel_rfl) rfl ?_
      intro ι U hne hU
      have hcv := fun k => ((hx1.trans (hU k)).cell h1)
      go_big_quiet_op
      clear hU hne hcv U ι
      show wpAnyM _ _ _ _ _ _ _ _ _
      refine mix_quiet Keeps.ext 4 rfl (by kernel_rfl) rfl ?_
      intro ι U hne hU
      go_big_quiet_op
      clear hU hne U ι
      show wpAnyM _ _ _ _ _ _ _ _ _
      refine mix_quiet Keeps.ext 5 rfl (by kernel_rfl) rfl ?_
      intro ι U hne hU
      go_big_quiet_op
      clear hU hne U ι
      show wpAnyM _ _ _ _ _ _ _ _ _
      refine mix_quiet Keeps.ext 6 rfl (by kernel_rfl) rfl ?_
      intro ι U hne hU
      go_big_quiet_op
      clear hU hne U ι
      show wpAnyM _ _ _ _ _ _ _ _ _
      refine mix_quiet Keeps.ext 7 rfl (by kernel_rfl) rfl ?_
      intro ι U hne hU
      have hcv := fun k => ((hx1.trans (hU k)).cell h2)
      go_big_quiet_op
      clear hU hne hcv U ι
      show wpAnyM _ _ _ _ _ _ _ _ _
      refine mix_quiet Keeps.ext 8 rfl (by kernel_rfl) rfl ?_
      intro ι U hne hU
      go_big_quiet_op
      clear hU hne U ι
      show wpAnyM _ _ _ _ _ _ _ _ _
      refine mix_end (by kernel_rfl) ?_
      have hb2 := hb.next hx1
      clear hb hx1
      go_wp2_with (first | (at_make; refine Stop.un ?_) | (at_builtin; refine Stop.un ?_))
      go_roundw
      case rel => exact ⟨j + 1, by omega, by go_num, hb2⟩
      case measure => simp [intOf] <;> omega
    · go_wp2_with (first | (at_make; refine Stop.un ?_) | (at_builtin; refine Stop.un ?_))
      go_ret
      exact ⟨rfl, hb⟩
end Go.Proofs.Ytcjnehlbkjpgbaa
