/- A group's row. -/
import Derived.Test.YtbiniecjenencaaGTold
import Derived.Test.YtbiniecjenencaaAppK
set_option linter.unusedVariables false
set_option linter.unusedSimpArgs false
set_option maxRecDepth 10000
namespace Go.Proofs.Ytbiniecjenencaa
open Go.RowKit
/-- What is told of a column. -/
structure Ag where
  op : Int
  col : Int
def agcells : List Ag → List Value
  | [] => []
  | x :: l => .int .u8 x.op :: .int .i64 x.col :: agcells l
theorem agcells_length : ∀ l : List Ag, (agcells l).length = l.length * 2
  | [] => rfl
  | v :: l => by simp only [agcells, List.length_cons, agcells_length l]; omega
theorem agcells_get : ∀ (l : List Ag) (i : Nat) (h : i < l.length), (agcells l)[i * 2]? = some (.int .u8 l[i].op) ∧ (agcells l)[i * 2 + 1]? = some (.int .i64 l[i].col)
  | [], i, h => absurd h (by simp)
  | v :: l, 0, h => ⟨rfl, rfl⟩
  | v :: l, i + 1, h => by
    have ih := agcells_get l i (by simpa using h)
    simp only [agcells, List.getElem_cons_succ]
    rw [show (i + 1) * 2 = i * 2 + 2 by omega]
    exact ih
theorem Cs.agat {w : World} {b o : Nat} {l : List Ag} (h : Cs w (some ⟨b, o, none⟩) (agcells l)) {i : Nat} (hi : i < l.length) :
    w.cell? ⟨b, o + i * 2, none⟩ = some (.int .u8 l[i].op) ∧ w.cell? ⟨b, o + i * 2 + 1, none⟩ = some (.int .i64 l[i].col) := by
  obtain ⟨h0, h1⟩ := agcells_get l i hi
  exact ⟨h.at h0, h.at h1⟩
/-- The value of a row that counts. -/
def vOf (x : Ag) (r : List V) : V := if x.op = 1 then V.zero else atV r x.col
/-- What is known of rows. -/
def knOf (x : Ag) (rows : List (List V)) : Kn := (rows.map (vOf x)).foldl Kn.add Kn.zero
theorem knOf_snoc (x : Ag) (rows : List (List V)) (r : List V) : knOf x (rows ++ [r]) = (knOf x rows).add (vOf x r) := by simp [knOf]
theorem knOf_ok (x : Ag) (rows : List (List V)) : (knOf x rows).ok rows.length := by
  have : ∀ (l : List V) (K : Kn) (m : Nat), K.ok m → (l.foldl Kn.add K).ok (m + l.length) := by
    intro l
    induction l with
    | nil => intro K m h; exact h
    | cons v l ih =>
      intro K m h
      have := ih _ _ (Kn.ok_add h v)
      rw [List.foldl_cons, List.length_cons, show m + (l.length + 1) = m + 1 + l.length by omega]
      exact this
  have h := this (rows.map (vOf x)) Kn.zero 0 Kn.ok_zero
  rw [List.length_map, Nat.zero_add] at h
  exact h
def aggB (rows : List (List V)) (x : Ag) : V × Int := (knOf x rows).told x.op
/-- What is told behind out: the error, and the row. -/
def tldB (rows : List (List V)) : List V → List Ag → Int × List V
  | out, [] => (0, out)
  | out, x :: l => if (aggB rows x).2 = 0 then tldB rows (out ++ [(aggB rows x).1]) l else ((aggB rows x).2, [])
/-- May columns be read? -/
def colOk (x : Ag) (r : Rw) : Prop := x.op = 1 ∨ (0 ≤ x.col ∧ x.col < r.n)
/-- A row of the call's own, or none and an error. -/
def RetRow (w : World) (res : Int × List V) : Ending → World → Prop := fun e w' =>
  (∃ g n c, e = .returned (.tuple #[.slice (some ⟨g, 0, none⟩) n c, .int .i64 0]) ∧ res.1 = 0 ∧ OwnV w w' (.slice (some ⟨g, 0, none⟩) n c) n res.2) ∨
  (∃ er, e = .returned (.tuple #[.slice none 0 0, .int .i64 er]) ∧ res.1 = er ∧ er ≠ 0 ∧ Below w.heap.size w w')
set_option maxRecDepth 100000 in
set_option maxHeartbeats 8000000 in
theorem gtold_any (ha : Option Addr) (hn hc : Nat) (hl : List V) (ra : Option Addr) (rn rc : Nat) (rows : List Rw) (ga : Option Addr) (gn gc : Nat) (ags : List Ag) (w : World)
    (h1 : Cs w ha (vcells hl)) (e1 : hl.length = hn) (m1 : hn ≤ 1000) (t : Tab w ra rows) (e2 : rows.length = rn) (m2 : rn ≤ rc) (cm2 : rc ≤ maxLen) (s2 : rn ≤ 100000)
    (h3 : Cs w ga (agcells ags)) (e3 : ags.length = gn) (m3 : gn ≤ gc) (cm3 : gc ≤ maxLen) (s3 : gn ≤ 1000) (hok : ∀ x ∈ ags, ∀ r ∈ rows, colOk x r) :
    Calls Try.prog 28 #[.slice ha hn hc, .slice ra rn rc, .slice ga gn gc] w (RetRow w (tldB (rows.map (·.l)) hl ags)) := by
  unfold maxLen at cm2 cm3
  have HN := Lib.hid (And.intro e1 (And.intro e2 (And.intro e3 hok)))
  clear e1 e2 e3 hok
  have HTH := Lib.hid (And.intro h1 (And.intro t h3))
  have hS : OwnV w (w.alloc (.cells #[] 38)) (.slice (some ⟨w.heap.size, 0, none⟩) 0 0) 0 [] := Own.block (Below.refl _ _) rfl (by decide)
  have hcs := h1.alloc (.cells #[] 38)
  clear h1 t h3
  go_enter Try.func28, Try.ntmps28
  go_wp2_with (first | (at_make; refine Stop.un ?_) | (at_builtin; refine Stop.un ?_) | (with_reducible refine Stop.conv 22 9 ?_) | (with_reducible refine Stop.conv 9 22 ?_))
  refine Stop.mk (app_rsk w _ _ rfl rfl hS rfl rfl HN.out.1 hcs (by omega) ?_)
  intro g0 c0 w0 O0 g4 k4
  simp only [Nat.zero_add, List.nil_append] at O0 ⊢
  clear hS hcs g4 k4
  go_wp2_with (first | (at_make; refine Stop.un ?_) | (at_builtin; refine Stop.un ?_) | (with_reducible refine Stop.conv 22 9 ?_) | (with_reducible refine Stop.conv 9 22 ?_))
  go_loopw [22, 8] (fun i v wr => ∃ (j g c : Nat) (out : List V), j ≤ gn ∧ i = .int .i64 (j : Int) ∧ v = .slice (some ⟨g, 0, none⟩) (hn + j) c ∧ OwnV w wr (.slice (some ⟨g, 0, none⟩) (hn + j) c) (hn + j) out ∧ Hid (tldB (rows.map (·.l)) hl ags = tldB (rows.map (·.l)) out (ags.drop j))) (fun i _ _ => gn - (intOf i).toNat)
  case atStart => exact ⟨0, g0, c0, hl, Nat.zero_le _, rfl, rfl, O0, Lib.hid rfl⟩
  case round =>
    clear O0
    obtain ⟨j, g, c, out, hj, rfl, rfl, O, HD⟩ := hrel
    by_cases hlt : j < gn
    · have hjl : j < ags.length := by have := HN.out.2.2.1; omega
      have bb := Own.below O
      have h3 := HTH.out.2.2.mono bb (Nat.le_refl _)
      obtain ⟨b, o, rfl⟩ := h3.addr (by rw [agcells_length]; omega)
      obtain ⟨x0, x1⟩ := h3.agat hjl
      have HD2 : Hid (ags.drop j = ags[j] :: ags.drop (j + 1)) := Lib.hid (List.drop_eq_getElem_cons hjl)
      have HCK := Lib.hid (HN.out.2.2.2 ags[j] (List.getElem_mem _))
      generalize ags[j] = x at x0 x1 HD2 HCK
      obtain ⟨op, col⟩ := x
      simp only at x0 x1
      have xb := lt_cell x0
      clear hjl h3 bb
      go_upto_region 6 with fail
      have zx := (At.new wr #[.int .u8 op, .int .i64 col] 34).alloc (.cells #[.int .i64 0, .int .i64 0, .int .i64 0, .int .u64 0, .int .u8 0, .int .i64 0, .string ⟨#[]⟩, .int .u8 0, .int .i64 0, .string ⟨#[]⟩] 83)
      have zk0 := At.new (wr.alloc (.cells #[.int .u8 op, .int .i64 col] 34)) #[.int .i64 0, .int .i64 0, .int .i64 0, .int .u64 0, .int .u8 0, .int .i64 0, .string ⟨#[]⟩, .int .u8 0, .int .i64 0, .string ⟨#[]⟩] 83
      have zk : At ((wr.alloc (.cells #[.int .u8 op, .int .i64 col] 34)).alloc (.cells #[.int .i64 0, .int .i64 0, .int .i64 0, .int .u64 0, .int .u8 0, .int .i64 0, .string ⟨#[]⟩, .int .u8 0, .int .i64 0, .string ⟨#[]⟩] 83)) (wr.heap.size + 1) #[.int .i64 0, .int .i64 0, .int .i64 0, .int .u64 0, .int .u8 0, .int .i64 0, .string ⟨#[]⟩, .int .u8 0, .int .i64 0, .string ⟨#[]⟩] 83 := by simpa only [World.size_alloc] using zk0
      have OA := Own.alloc (Own.alloc O (.cells #[.int .u8 op, .int .i64 col] 34)) (.cells #[.int .i64 0, .int .i64 0, .int .i64 0, .int .u64 0, .int .u8 0, .int .i64 0, .string ⟨#[]⟩, .int .u8 0, .int .i64 0, .string ⟨#[]⟩] 83)
      have HG : Hid (wr.heap.size + 1 ≠ g ∧ w.heap.size ≤ wr.heap.size + 1 ∧ wr.heap.size ≠ wr.heap.size + 1) := Lib.hid ⟨by have := Own.lt O g rfl; omega, by have := Own.le O; omega, by omega⟩
      clear zk0 O x0 x1 xb
      generalize (wr.alloc (.cells #[.int .u8 op, .int .i64 col] 34)).alloc (.cells #[.int .i64 0, .int .i64 0, .int .i64 0, .int .u64 0, .int .u8 0, .int .i64 0, .string ⟨#[]⟩, .int .u8 0, .int .i64 0, .string ⟨#[]⟩] 83) = wA at zx zk OA ⊢
      generalize wr.heap.size + 1 = gk at zk HG ⊢
      generalize wr.heap.size = gx at zx HG ⊢
      have zk : At wA gk (knOf ⟨op, col⟩ ((rows.take 0).map (·.l))).cells 83 := zk
      go_wp2_with (first | (at_make; refine Stop.un ?_) | (at_builtin; refine Stop.un ?_) | (with_reducible refine Stop.conv 22 9 ?_) | (with_reducible refine Stop.conv 9 22 ?_))
      go_loopw [28] (fun iv wr => ∃ (i : Nat), i ≤ rn ∧ iv = .int .i64 (i : Int) ∧ At wr gx #[.int .u8 op, .int .i64 col] 34 ∧ At wr gk (knOf ⟨op, col⟩ ((rows.take i).map (·.l))).cells 83 ∧ OwnV w wr (.slice (some ⟨g, 0, none⟩) (hn + j) c) (hn + j) out) (fun iv _ => rn - (intOf iv).toNat)
      case atStart => exact ⟨0, Nat.zero_le _, rfl, zx, zk, OA⟩
      case round =>
        clear zx zk OA
        obtain ⟨i, hi, rfl, zx, zk, O⟩ := hrel
        by_cases hli : i < rn
        · have hil : i < rows.length := by have := HN.out.2.1; omega
          have t2 := HTH.out.2.1.mono (Own.below O)
          obtain ⟨rb, ro, rfl⟩ := t2.cs.addr (by rw [rwcells_length]; omega)
          have y0 := t2.at hil
          have rk := t2.ok rows[i] (List.getElem_mem _)
          have hck := HCK.out rows[i] (List.getElem_mem _)
          have HTK : Hid ((rows.take (i + 1)).map (·.l) = (rows.take i).map (·.l) ++ [rows[i].l]) := Lib.hid (by rw [List.take_succ_eq_append_getElem hil, List.map_append]; rfl)
          have HOK : Hid ((knOf ⟨op, col⟩ ((rows.take i).map (·.l))).ok i) := Lib.hid (by
            have := knOf_ok ⟨op, col⟩ ((rows.take i).map (·.l))
            rwa [List.length_map, List.length_take, Nat.min_eq_left (by omega)] at this)
          have HK2 : Hid (∀ v, v = vOf ⟨op, col⟩ rows[i].l → (knOf ⟨op, col⟩ ((rows.take i).map (·.l))).add v = knOf ⟨op, col⟩ ((rows.take (i + 1)).map (·.l))) := Lib.hid (fun v hv => by rw [HTK.out, knOf_snoc, hv])
          generalize knOf ⟨op, col⟩ ((rows.take i).map (·.l)) = K at zk HOK HK2
          generalize rows[i] = r at y0 rk hck HK2
          clear HTK hil t2
          have hrle := rk.le
          have hrmx : r.cap ≤ 9223372036854775807 := rk.max
          by_cases hop : op = 1
          ·
            have HGV : Hid (gx ≠ wr.heap.size ∧ gk ≠ wr.heap.size ∧ g ≠ wr.heap.size ∧ w.heap.size ≤ wr.heap.size) := Lib.hid ⟨by have := zx.lt; omega, by have := zk.lt; omega, by have := Own.lt O g rfl; omega, Own.le O⟩
            have zx2 := zx.alloc (.cells #[.int .u8 0, .int .i64 0, .string ⟨#[]⟩] 38)
            have zk2 := zk.alloc (.cells #[.int .u8 0, .int .i64 0, .string ⟨#[]⟩] 38)
            have O2 := Own.alloc O (.cells #[.int .u8 0, .int .i64 0, .string ⟨#[]⟩] 38)
            have zv := At.new wr #[.int .u8 0, .int .i64 0, .string ⟨#[]⟩] 38
            subst hop
            clear hck rk
            have hv : Hid (K.add ⟨0, 0, ⟨#[]⟩⟩ = knOf ⟨1, col⟩ ((rows.take (i + 1)).map (·.l))) := Lib.hid (HK2.out _ rfl)
            clear HK2
            go_upto_region 10 with fail
            clear zx zk O y0
            generalize wr.alloc (.cells #[.int .u8 0, .int .i64 0, .string ⟨#[]⟩] 38) = wB at zx2 zk2 O2 zv ⊢
            generalize wr.heap.size = gv at zv HGV ⊢
            have d0 := zx2.cell 0 rfl
            have d1 := zv.cell 0 rfl
            have d2 := zv.cell 1 rfl
            have d3 := zv.cell 2 rfl
            go_wp2_with (first | (at_make; refine Stop.un ?_) | (at_builtin; refine Stop.un ?_) | (with_reducible refine Stop.conv 22 9 ?_) | (with_reducible refine Stop.conv 9 22 ?_))
            clear d0 d1 d2 d3
            refine (kadd_any K ⟨0, 0, ⟨#[]⟩⟩ gk i wB zk2 HOK.out (by omega)).mono ?_
            rintro e9 wC ⟨rfl, zk3, o3⟩
            have zx3 := o3.at zx2 HG.out.2.2
            have O3 := Own.oth O2 o3 (fun k hk e => by have h1 : g = k := Option.some.inj hk; exact HG.out.1 (e.symm.trans h1.symm)) (fun k hk => by rw [hk]; exact HG.out.2.1)
            rw [hv.out] at zk3
            clear zx2 zk2 O2 zv o3 hv HOK
            go_wp2_with (first | (at_make; refine Stop.un ?_) | (at_builtin; refine Stop.un ?_) | (with_reducible refine Stop.conv 22 9 ?_) | (with_reducible refine Stop.conv 9 22 ?_))
            go_roundw
            case rel => exact ⟨i + 1, by omega, by go_num, zx3, zk3, O3⟩
            case measure => simp [intOf]; omega
          ·
            have HGV : Hid (gx ≠ wr.heap.size ∧ gk ≠ wr.heap.size ∧ g ≠ wr.heap.size ∧ w.heap.size ≤ wr.heap.size) := Lib.hid ⟨by have := zx.lt; omega, by have := zk.lt; omega, by have := Own.lt O g rfl; omega, Own.le O⟩
            have zx2 := zx.alloc (.cells #[.int .u8 0, .int .i64 0, .string ⟨#[]⟩] 38)
            have zk2 := zk.alloc (.cells #[.int .u8 0, .int .i64 0, .string ⟨#[]⟩] 38)
            have O2 := Own.alloc O (.cells #[.int .u8 0, .int .i64 0, .string ⟨#[]⟩] 38)
            have zv := At.new wr #[.int .u8 0, .int .i64 0, .string ⟨#[]⟩] 38
            have hopn : (op != 1) = true := by simpa using hop
            obtain ⟨hc0, hc1⟩ := hck.resolve_left hop
            obtain ⟨cc, hcc⟩ := Int.eq_ofNat_of_zero_le hc0
            simp only at hcc hc1
            subst hcc
            have hcr : cc < r.l.length := by have := rk.len; omega
            have hcn : cc < r.n := by omega
            obtain ⟨ar, nr, cr, lr⟩ := r
            simp only at y0 hrle hrmx hcn hcr
            obtain ⟨vb, vo, rfl⟩ := rk.cs.addr (by rw [vcells_length]; show 0 < lr.length * 3; omega)
            obtain ⟨q0, q1, q2⟩ := rk.cs.vat hcr
            have hv : Hid (K.add lr[cc] = knOf ⟨op, (cc : Int)⟩ ((rows.take (i + 1)).map (·.l))) := Lib.hid (HK2.out _ (by
              unfold vOf
              rw [if_neg hop]
              exact (atV_in hcr).symm))
            simp only at q0 q1 q2
            generalize lr[cc] = v at q0 q1 q2 hv
            obtain ⟨vk, vn, vs⟩ := v
            simp only at q0 q1 q2
            clear hck rk HK2 hc0 hc1 hcr hop
            replace q0 := Ext.cell ((Below.refl wr.heap.size wr).alloc (Nat.le_refl _) (.cells #[.int .u8 0, .int .i64 0, .string ⟨#[]⟩] 38)) q0
            replace q1 := Ext.cell ((Below.refl wr.heap.size wr).alloc (Nat.le_refl _) (.cells #[.int .u8 0, .int .i64 0, .string ⟨#[]⟩] 38)) q1
            replace q2 := Ext.cell ((Below.refl wr.heap.size wr).alloc (Nat.le_refl _) (.cells #[.int .u8 0, .int .i64 0, .string ⟨#[]⟩] 38)) q2
            go_upto_region 10 with fail
            clear zx zk O y0
            generalize wr.alloc (.cells #[.int .u8 0, .int .i64 0, .string ⟨#[]⟩] 38) = wB at zx2 zk2 O2 zv q0 q1 q2 ⊢
            generalize wr.heap.size = gv at zv HGV ⊢
            have d0 := zx2.cell 0 rfl
            have d4 := zx2.cell 1 rfl
            have fq0 := zv.free 0
            have gq0 := zv.cell 0 rfl
            have fq1 := zv.free 1
            have gq1 := zv.cell 1 rfl
            have fq2 := zv.free 2
            have gq2 := zv.cell 2 rfl
            have lq := zv.lt
            go_upto_region 12 with fail
            replace zv := zv.set3 (.int .u8 vk) (.int .i64 vn) (.string vs)
            replace zx2 := zx2.off3 (.int .u8 vk) (.int .i64 vn) (.string vs) HGV.out.1
            replace zk2 := zk2.off3 (.int .u8 vk) (.int .i64 vn) (.string vs) HGV.out.2.1
            replace O2 := Own.cs_put O2 vk vn vs HGV.out.2.2.2 (fun e => HGV.out.2.2.1 (Option.some.inj e))
            clear d0 d4 fq0 fq1 fq2 gq0 gq1 gq2 lq q0 q1 q2
            generalize (((wB.setCell ⟨gv, 0, none⟩ (.int .u8 vk)).setCell ⟨gv, 1, none⟩ (.int .i64 vn)).setCell ⟨gv, 2, none⟩ (.string vs)) = wD at zv zx2 zk2 O2 ⊢
            have d1 := zv.cell 0 rfl
            have d2 := zv.cell 1 rfl
            have d3 := zv.cell 2 rfl
            go_wp2_with (first | (at_make; refine Stop.un ?_) | (at_builtin; refine Stop.un ?_) | (with_reducible refine Stop.conv 22 9 ?_) | (with_reducible refine Stop.conv 9 22 ?_))
            clear d1 d2 d3
            refine (kadd_any K ⟨vk, vn, vs⟩ gk i wD zk2 HOK.out (by omega)).mono ?_
            rintro e9 wC ⟨rfl, zk3, o3⟩
            have zx3 := o3.at zx2 HG.out.2.2
            have O3 := Own.oth O2 o3 (fun k hk e => by have h1 : g = k := Option.some.inj hk; exact HG.out.1 (e.symm.trans h1.symm)) (fun k hk => by rw [hk]; exact HG.out.2.1)
            rw [hv.out] at zk3
            clear zx2 zk2 O2 zv o3 hv HOK
            go_wp2_with (first | (at_make; refine Stop.un ?_) | (at_builtin; refine Stop.un ?_) | (with_reducible refine Stop.conv 22 9 ?_) | (with_reducible refine Stop.conv 9 22 ?_))
            go_roundw
            case rel => exact ⟨i + 1, by omega, by go_num, zx3, zk3, O3⟩
            case measure => simp [intOf]; omega
        · obtain rfl : i = rn := by omega
          have HTL : Hid ((rows.take i).map (·.l) = rows.map (·.l)) := Lib.hid (by rw [List.take_of_length_le (by have := HN.out.2.1; omega)])
          rw [HTL.out] at zk
          have HOK : Hid ((knOf ⟨op, col⟩ (rows.map (·.l))).ok i) := Lib.hid (by
            have := knOf_ok ⟨op, col⟩ (rows.map (·.l))
            rwa [List.length_map, HN.out.2.1] at this)
          have HA : Hid (aggB (rows.map (·.l)) ⟨op, col⟩ = (knOf ⟨op, col⟩ (rows.map (·.l))).told op) := Lib.hid rfl
          have HE := Lib.hid (told_err (knOf ⟨op, col⟩ (rows.map (·.l))) op)
          generalize knOf ⟨op, col⟩ (rows.map (·.l)) = K at zk HOK HA HE
          have d0 := zx.cell 0 rfl
          clear HTL HCK hli
          go_wp2_with (first | (at_make; refine Stop.un ?_) | (at_builtin; refine Stop.un ?_) | (with_reducible refine Stop.conv 22 9 ?_) | (with_reducible refine Stop.conv 9 22 ?_))
          refine (ktold_any K op gk i wr zk HOK.out (by omega)).mono ?_
          rintro e9 wC ⟨rfl, bC⟩
          replace O := Own.keep O bC
          clear zx zk d0 bC HOK
          generalize K.told op = T at HA HE
          obtain ⟨⟨vk, vn, vs⟩, er⟩ := T
          simp only at HE
          simp only [V.val]
          rcases HE.out with rfl | rfl
          · have zv := At.new wC #[.int .u8 vk, .int .i64 vn, .string vs] 38
            have O2 := Own.alloc O (.cells #[.int .u8 vk, .int .i64 vn, .string vs] 38)
            have HD3 : Hid (tldB (rows.map (·.l)) hl ags = tldB (rows.map (·.l)) (out ++ [⟨vk, vn, vs⟩]) (ags.drop (j + 1))) := Lib.hid (by
              rw [HD.out, HD2.out]
              rw [tldB, HA.out, if_pos rfl])
            clear HD HD2 HA HE O
            go_upto_region 15 with fail
            generalize wC.alloc (.cells #[.int .u8 vk, .int .i64 vn, .string vs] 38) = wD at zv O2 ⊢
            have d1 := zv.cell 0 rfl
            have d2 := zv.cell 1 rfl
            have d3 := zv.cell 2 rfl
            go_wp2_with (first | (at_make; refine Stop.un ?_) | (at_builtin; refine Stop.un ?_) | (with_reducible refine Stop.conv 22 9 ?_) | (with_reducible refine Stop.conv 9 22 ?_))
            refine Stop.mk (app_rv1 (c := ⟨vk, vn, vs⟩) w _ _ rfl rfl O2 rfl rfl (by omega) ?_)
            intro g5 c5 w5 O5 _ _
            clear d1 d2 d3 zv O2
            rw [Nat.add_assoc] at O5
            go_wp2_with (first | (at_make; refine Stop.un ?_) | (at_builtin; refine Stop.un ?_) | (with_reducible refine Stop.conv 22 9 ?_) | (with_reducible refine Stop.conv 9 22 ?_))
            go_roundw
            case rel => exact ⟨j + 1, g5, c5, _, by omega, by go_num, rfl, O5, HD3⟩
            case measure => simp [intOf]; omega
          · have HD3 : Hid ((tldB (rows.map (·.l)) hl ags).1 = 220) := Lib.hid (by
              rw [HD.out, HD2.out]
              rw [tldB, HA.out, if_neg (show ¬ (220 : Int) = 0 by decide)])
            have bw := (Own.below O).alloc (Own.le O) (.cells #[.int .u8 vk, .int .i64 vn, .string vs] 38)
            clear HD HD2 HA HE O
            go_wp2_with (first | (at_make; refine Stop.un ?_) | (at_builtin; refine Stop.un ?_) | (with_reducible refine Stop.conv 22 9 ?_) | (with_reducible refine Stop.conv 9 22 ?_))
            exact bodyPost_ret (v := .tuple #[.slice none 0 0, .int .i64 220]) (by simp [results, Try.results28, go_sem]) rfl (.inr ⟨220, rfl, HD3.out, by decide, bw⟩)
    · obtain rfl : j = gn := by omega
      have HDX : Hid (tldB (rows.map (·.l)) hl ags = (0, out)) := Lib.hid (by
        rw [HD.out, List.drop_of_length_le (by have := HN.out.2.2.1; omega)]
        rfl)
      clear HD
      go_wp2_with (first | (at_make; refine Stop.un ?_) | (at_builtin; refine Stop.un ?_) | (with_reducible refine Stop.conv 22 9 ?_) | (with_reducible refine Stop.conv 9 22 ?_))
      exact bodyPost_ret (v := .tuple #[.slice (some ⟨g, 0, none⟩) (hn + j) c, .int .i64 0]) (by simp [results, Try.results28, go_sem]) rfl (.inl ⟨g, hn + j, c, rfl, by rw [HDX.out], by rw [HDX.out]; exact O⟩)
end Go.Proofs.Ytbiniecjenencaa
