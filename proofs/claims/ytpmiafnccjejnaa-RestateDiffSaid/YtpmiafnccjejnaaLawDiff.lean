/-
  treatylaw32.RestateDiff: the law's walk.
-/
import Derived.Test.YtpmiafnccjejnaaSVal2
namespace Go.Proofs.Ytpmiafnccjejnaa
open Go.RowKit
set_option linter.unusedVariables false

/-- The pairs that the law looks at. -/
theorem three {w W : World} {bq : Nat} {x y u v : Value} {a b c d : List Sh} (hq : bq < w.heap.size) (h0 : w.cell? ⟨bq, 0, none⟩ = some x) (h1 : w.cell? ⟨bq, 1, none⟩ = some y) (h2 : w.cell? ⟨bq, 2, none⟩ = some u) (h3 : w.cell? ⟨bq, 3, none⟩ = some v) (h4 : w.cell? ⟨bq, 4, none⟩ = some x) (h5 : w.cell? ⟨bq, 5, none⟩ = some v)
    (ha : LkS a) (hb : LkS b) (hc : LkS c) (hd : LkS d) (sa : SV w x a) (sb : SV w y b) (sc : SV w u c) (sd : SV w v d) (hB : Below w.heap.size w W) {k : Nat} (hk : k < 3) :
    ∃ (p q : Value) (s t : List Sh), W.cell? ⟨bq, k * 2, none⟩ = some p ∧ W.cell? ⟨bq, k * 2 + 1, none⟩ = some q ∧ LkS s ∧ LkS t ∧ SV W p s ∧ SV W q t := by
  have cc : ∀ o u, w.cell? ⟨bq, o, none⟩ = some u → W.cell? ⟨bq, o, none⟩ = some u := fun o u h => (hB.cell (p := ⟨bq, o, none⟩) hq).trans h
  rcases k with _ | _ | _ | k
  · exact ⟨x, y, a, b, cc _ _ h0, cc _ _ h1, ha, hb, sa.below hB, sb.below hB⟩
  · exact ⟨u, v, c, d, cc _ _ h2, cc _ _ h3, hc, hd, sc.below hB, sd.below hB⟩
  · exact ⟨x, v, a, d, cc _ _ h4, cc _ _ h5, ha, hd, sa.below hB, sd.below hB⟩
  · omega

set_option maxRecDepth 100000 in
set_option maxHeartbeats 8000000 in
theorem lawDiff (A : Option Addr) (c : Nat) (a : List Sh) (B : Option Addr) (d : Nat) (b : List Sh) (C : Option Addr) (k : Nat) (dc : List Int) (D : Option Addr) (l : Nat) (dd : List Int) (w : World) (hA : Shs w 0 A a) (hB : Shs w 0 B b) (hC : Ints w 0 C dc) (hD : Ints w 0 D dd) (hla : a.length ≤ 9223372036854775807) (hlb : b.length ≤ 9223372036854775807) (hlc : dc.length ≤ 9223372036854775807) (hld : dd.length ≤ 9223372036854775807) (oka : ∀ x ∈ a, x.ok) (okb : ∀ x ∈ b, x.ok) :
    Calls Try.prog 3 #[.slice A a.length c, .slice B b.length d, .slice C dc.length k, .slice D dd.length l] w fun e w' => e = .returned (.bool true) ∧ Below w.heap.size w w' := by
  have C1 := Lib.hid (fun (w1 : World) (h : Below w.heap.size w w1) => new_any C k dc w1 hlc (hC.below h))
  have C2 := Lib.hid (fun (w1 : World) (h : Below w.heap.size w w1) => new_any D l dd w1 hld (hD.below h))
  have SA : Hid (SV w (.slice A a.length c) a) := ⟨A, c, rfl, hA⟩
  have SB : Hid (SV w (.slice B b.length d) b) := ⟨B, d, rfl, hB⟩
  have LA : Hid (a.length ≤ 100 → LkS a) := fun h => ⟨by omega, oka⟩
  have LB : Hid (b.length ≤ 100 → LkS b) := fun h => ⟨by omega, okb⟩
  obtain ⟨n, hn⟩ : ∃ n, n = a.length := ⟨_, rfl⟩
  obtain ⟨m, hm⟩ : ∃ m, m = b.length := ⟨_, rfl⟩
  obtain ⟨p, hp⟩ : ∃ m, m = dc.length := ⟨_, rfl⟩
  obtain ⟨q, hq⟩ : ∃ m, m = dd.length := ⟨_, rfl⟩
  rw [← hn] at SA LA hla ⊢
  rw [← hm] at SB LB hlb ⊢
  rw [← hp] at C1 ⊢
  rw [← hq] at C2 ⊢
  clear hn hm hp hq hA hB hC hD hlc hld oka okb
  by_cases h100 : n ≤ 100 ∧ m ≤ 100
  case neg =>
    by_cases hn1 : n ≤ 100
    · have q1 : decide ((n : Int) > 100) = false := by simp; omega
      have q2 : decide ((m : Int) > 100) = true := by simp; omega
      clear h100 hn1
      go_enter Try.func3, Try.ntmps3
      go_wp2_with fail
      refine (awake32_any _).mono ?_
      rintro e w1 ⟨rfl, hb1⟩
      go_wp2_with fail
      go_ret
      exact ⟨rfl, hb1⟩
    · have q1 : decide ((n : Int) > 100) = true := by simp; omega
      clear h100 hn1
      go_enter Try.func3, Try.ntmps3
      go_wp2_with fail
      refine (awake32_any _).mono ?_
      rintro e w1 ⟨rfl, hb1⟩
      go_wp2_with fail
      go_ret
      exact ⟨rfl, hb1⟩
  have q1 : decide ((n : Int) > 100) = false := by simp; omega
  have q2 : decide ((m : Int) > 100) = false := by simp; omega
  have la := LA.out h100.1
  have lb := LB.out h100.2
  clear h100 LA LB
  go_enter Try.func3, Try.ntmps3
  go_wp2_with fail
  refine (C1.out w (Below.refl _ _)).mono ?_
  rintro e w1 ⟨rfl, hd1, hb1, _⟩
  clear C1
  go_wp2_with fail
  refine (looseV _ 20 w1 w (by omega) (by omega) hd1 hb1 (Nat.le_refl _)).mono ?_
  rintro e w2 ⟨U, us, rfl, hus, hU, hb2⟩
  clear hd1 hb1
  go_wp2_with fail
  refine (C2.out w2 hb2).mono ?_
  rintro e w3 ⟨rfl, hd3, hb3, _⟩
  go_wp2_with fail
  refine (looseV _ 20 w3 w2 (by omega) (by omega) hd3 hb3 (Nat.le_refl _)).mono ?_
  rintro e w4 ⟨V, vs, rfl, hvs, hV, hb4⟩
  have hb04 := hb2.trans (hb4.mono hb2.size)
  have sa := SA.out.below hb04
  have sb := SB.out.below hb04
  have su := hU.below hb4
  have lu := hus.lk (by omega)
  have lv := hvs.lk (by omega)
  obtain ⟨X, nx, xc, rfl⟩ := hU.shape
  obtain ⟨Y, ny, yc, rfl⟩ := hV.shape
  clear hd3 hb3 C2 SA SB hb2 hb4 hU hus hvs
  obtain ⟨w5, hw5⟩ : ∃ x : World, x = w4.alloc (.cells #[.slice A n c, .slice B m d, .slice X nx xc, .slice Y ny yc, .slice A n c, .slice Y ny yc] 28) := ⟨_, rfl⟩
  obtain ⟨bq, hbq⟩ : ∃ x, x = w4.heap.size := ⟨_, rfl⟩
  have hbb : Below w4.heap.size w4 w5 := by rw [hw5]; exact (Below.refl _ _).alloc (Nat.le_refl _) _
  have c0 : w5.cell? ⟨bq, 0, none⟩ = some (.slice A n c) := by rw [hw5, hbq]; simp
  have c1 : w5.cell? ⟨bq, 1, none⟩ = some (.slice B m d) := by rw [hw5, hbq]; simp
  have c2 : w5.cell? ⟨bq, 2, none⟩ = some (.slice X nx xc) := by rw [hw5, hbq]; simp
  have c3 : w5.cell? ⟨bq, 3, none⟩ = some (.slice Y ny yc) := by rw [hw5, hbq]; simp
  have c4 : w5.cell? ⟨bq, 4, none⟩ = some (.slice A n c) := by rw [hw5, hbq]; simp
  have c5 : w5.cell? ⟨bq, 5, none⟩ = some (.slice Y ny yc) := by rw [hw5, hbq]; simp
  have hqs : bq < w5.heap.size := by rw [hw5, hbq]; simp
  have hb05 := hb04.trans (hbb.mono hb04.size)
  have H3 : Hid (∀ W, Below w5.heap.size w5 W → ∀ k, k < 3 → ∃ (p q : Value) (s t : List Sh), W.cell? ⟨bq, k * 2, none⟩ = some p ∧ W.cell? ⟨bq, k * 2 + 1, none⟩ = some q ∧ LkS s ∧ LkS t ∧ SV W p s ∧ SV W q t) :=
    fun W hW k hk => three hqs c0 c1 c2 c3 c4 c5 la lb lu lv (sa.below hbb) (sb.below hbb) (su.below hbb) (hV.below hbb) hW hk
  have HB5 := Lib.hid hb05
  go_upto_region 5 with fail
  rw [← hw5, ← hbq]
  clear hw5 hbq hbb c0 c1 c2 c3 c4 c5 hqs hb04 sa sb su hV la lb lu lv hb05
  obtain ⟨wz, hwz⟩ : ∃ x : World, x = w5 := ⟨_, rfl⟩
  have hbz : Below w5.heap.size w5 wz := by rw [hwz]; exact Below.refl _ _
  rw [← hwz]
  clear hwz
  go_loopw [12, 13, 14, 15, 16, 17, 18, 19, 20, 47] (fun _ _ _ _ _ _ _ _ _ ii wr => ∃ (j : Nat), j ≤ 3 ∧ ii = .int .i64 j ∧ Below w5.heap.size w5 wr) (fun _ _ _ _ _ _ _ _ _ ii _ => 3 - (intOf ii).toNat)
  case atStart => exact ⟨0, by omega, rfl, hbz⟩
  case round =>
    obtain ⟨j, hj, rfl, hbj⟩ := hrel
    clear hbz
    by_cases hj3 : j < 3
    · obtain ⟨P, Q, s, t, p0, p1, ls, lt, hs, ht⟩ := H3.out wr hbj j hj3
      obtain ⟨P1, P2, P3, rfl⟩ := hs.shape
      obtain ⟨Q1, Q2, Q3, rfl⟩ := ht.shape
      obtain ⟨wb, hwb⟩ : ∃ x : World, x = wr.alloc (.cells #[.slice P1 P2 P3, .slice Q1 Q2 Q3] 28) := ⟨_, rfl⟩
      obtain ⟨g1, hg1⟩ : ∃ x, x = wr.heap.size := ⟨_, rfl⟩
      have hbb : Below wr.heap.size wr wb := by rw [hwb]; exact (Below.refl _ _).alloc (Nat.le_refl _) _
      have r0 : wb.cell? ⟨g1, 0, none⟩ = some (.slice P1 P2 P3) := by rw [hwb, hg1]; simp
      have r1 : wb.cell? ⟨g1, 1, none⟩ = some (.slice Q1 Q2 Q3) := by rw [hwb, hg1]; simp
      have hg1l : g1 < wb.heap.size := by rw [hwb, hg1]; simp
      have hs' := hs.below hbb
      have ht' := ht.below hbb
      have hbjb := hbj.trans (hbb.mono hbj.size)
      have hl1 := diffR_len ls lt
      have hl2 := applyR_len ls lt
      have HL1 := Lib.hid hl1
      have HL2 := Lib.hid hl2
      obtain ⟨E1, hE1⟩ : ∃ x, x = diffErr s t := ⟨_, rfl⟩
      obtain ⟨E2, hE2⟩ : ∃ x, x = applyErr s t := ⟨_, rfl⟩
      have D1 := Lib.hid (fun (W : World) (h1 : SV W (.slice P1 P2 P3) s) (h2 : SV W (.slice Q1 Q2 Q3) t) => diffL ls lt h1 h2)
      have D2 := Lib.hid (fun (W : World) (h1 : SV W (.slice P1 P2 P3) s) (h2 : SV W (.slice Q1 Q2 Q3) t) => rdiffL ls lt h1 h2)
      have D3 := Lib.hid (fun (W : World) (h1 : SV W (.slice P1 P2 P3) s) (h2 : SV W (.slice Q1 Q2 Q3) t) => applyL ls lt h1 h2)
      have D4 := Lib.hid (fun (W : World) (h1 : SV W (.slice P1 P2 P3) s) (h2 : SV W (.slice Q1 Q2 Q3) t) => rapplyL ls lt h1 h2)
      rw [← hE1] at D1 D2
      rw [← hE2] at D3 D4
      clear hl1 hl2 hE1 hE2
      go_upto_region 7 with fail
      rw [← hwb, ← hg1]
      clear hwb hg1 p0 p1 hs ht hbb hbj
      go_wp2_with fail
      refine (D1.out wb hs' ht').mono ?_
      rintro e wc ⟨va, rfl, hva, hbc⟩
      have s0 := (hbc.cell (p := ⟨g1, 0, none⟩) hg1l).trans r0
      have s1 := (hbc.cell (p := ⟨g1, 1, none⟩) hg1l).trans r1
      have hs2 := hs'.below hbc
      have ht2 := ht'.below hbc
      have hgc : g1 < wc.heap.size := Nat.lt_of_lt_of_le hg1l hbc.size
      have hbjc := hbjb.trans (hbc.mono hbjb.size)
      clear r0 r1 hs' ht' hbc hbjb D1 hg1l
      go_wp2_with fail
      refine (D2.out wc hs2 ht2).mono ?_
      rintro e wd ⟨vb, rfl, hvb, hbd⟩
      have t0 := (hbd.cell (p := ⟨g1, 0, none⟩) hgc).trans s0
      have t1 := (hbd.cell (p := ⟨g1, 1, none⟩) hgc).trans s1
      have hs3 := hs2.below hbd
      have ht3 := ht2.below hbd
      have hva3 := hva.below hbd
      have hgd : g1 < wd.heap.size := Nat.lt_of_lt_of_le hgc hbd.size
      have hbjd := hbjc.trans (hbd.mono hbjc.size)
      clear s0 s1 hs2 ht2 hbd hbjc D2 hgc hva
      go_wp2_with fail
      refine (D3.out wd hs3 ht3).mono ?_
      rintro e we ⟨vc, rfl, hvc, hbe⟩
      have x0 := (hbe.cell (p := ⟨g1, 0, none⟩) hgd).trans t0
      have x1 := (hbe.cell (p := ⟨g1, 1, none⟩) hgd).trans t1
      have hs4 := hs3.below hbe
      have ht4 := ht3.below hbe
      have hva4 := hva3.below hbe
      have hvb4 := hvb.below hbe
      have hbje := hbjd.trans (hbe.mono hbjd.size)
      clear t0 t1 hs3 ht3 hbe hbjd D3 hgd hva3 hvb
      go_wp2_with fail
      refine (D4.out we hs4 ht4).mono ?_
      rintro e wf ⟨vd, rfl, hvd, hbf⟩
      have hva5 := hva4.below hbf
      have hvb5 := hvb4.below hbf
      have hvc5 := hvc.below hbf
      have hbjf := hbje.trans (hbf.mono hbje.size)
      clear x0 x1 hs4 ht4 hbf hbje D4 hva4 hvb4 hvc
      have F1 := Lib.hid (sameV hva5 hvb5 HL1.out)
      have F2 := Lib.hid (fun (W : World) (h : Below wf.heap.size wf W) => sameV (hvc5.below h) (hvd.below h) HL2.out)
      clear hva5 hvb5 hvc5 hvd
      have e1 : (E1 != E1) = false := by simp
      have e2 : (E2 != E2) = false := by simp
      go_wp2_with fail
      refine F1.out.mono ?_
      rintro e wg ⟨rfl, hbg⟩
      go_wp2_with fail
      refine (F2.out wg hbg).mono ?_
      rintro e wh ⟨rfl, hbh⟩
      have hbjg := hbjf.trans (hbg.mono hbjf.size)
      have hbjh := hbjg.trans (hbh.mono hbjg.size)
      clear hbjf hbg hbh hbjg F1 F2
      go_wp2_with fail
      go_roundw
      case rel => exact ⟨j + 1, by omega, by go_num, hbjh⟩
      case measure => simp [intOf]; omega
    · obtain rfl : j = 3 := by omega
      have hb0j := HB5.out.trans (hbj.mono HB5.out.size)
      go_wp2_with fail
      refine (awake32_any _).mono ?_
      rintro e wz ⟨rfl, hbz⟩
      go_wp2_with fail
      go_ret
      exact ⟨rfl, hb0j.trans (hbz.mono hb0j.size)⟩

end Go.Proofs.Ytpmiafnccjejnaa
