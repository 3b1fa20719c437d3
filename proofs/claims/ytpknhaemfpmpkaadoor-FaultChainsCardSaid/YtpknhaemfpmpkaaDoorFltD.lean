/- The document's Digits: a number's decimal numeral. No condition beyond each lemma's own. -/
import Derived.Test.YtpknhaemfpmpkaaDoorFlt6
import Derived.Test.YtpknhaemfpmpkaaDoorMem6
import Derived.Lib.ItoaNum
import Derived.Laws.BytesString
namespace Go.Proofs.YtpknhaemfpmpkaaDoor
open Go.RowKit Go.Extern.Stop Go.Stop Go.Extern Go.Deep

theorem Tryd.infoU8 : (Tryd.prog.info? 5).map (fun i => (i.zero, i.size, i.bytes)) = some (some (.int .u8 0), 1, 1) := by kernel_rfl

def by48 (d : Nat) : UInt8 := UInt8.ofNat (48 + d)
theorem dec_end {v : Nat} (h : v / 10 = 0) : Lib.decDigits v = [by48 (v % 10)] := by
  have h1 : v < 10 := by omega
  rw [Lib.decDigits_one h1, Nat.mod_eq_of_lt h1]; rfl
theorem dec_more {v : Nat} (h : v / 10 ≠ 0) : Lib.decDigits v = Lib.decDigits (v / 10) ++ [by48 (v % 10)] := by
  have h1 : ¬ v < 10 := by omega
  rw [Lib.decDigits, dif_neg h1]; rfl

theorem conv_one (a : Addr) (c : Nat) (d : Nat) (w : World) (h : w.cell? a = some (.int .u8 (48 + (d : Int)))) :
    (convert 47 9 (.slice (some a) 1 c)).run Tryd.prog w = .ok (.string ⟨#[by48 d]⟩) w := by
  rw [run_convert_bytes_string w 47 9 5 (some a) 1 c Tryd.underlying47 Tryd.underlying5 Tryd.underlying9]
  have h1 : (loadCells a 1).run Tryd.prog w = .ok ([48 + (d : Int)].map (Value.int .u8)).toArray w := by
    have h' : w.cell? (a.add 0) = some (.int .u8 (48 + (d : Int))) := by rw [show a.add 0 = a by simp [Addr.add]]; exact h
    simp [loadCells, loadCellsFrom, h']
  rw [run_bytesToString w a 1 c _ h1]
  have e : (48 + (d : Int)).toNat = 48 + d := by omega
  simp only [List.foldl_cons, List.foldl_nil, e]
  rfl

def dcell (d : Nat) : Value := .int .u8 (48 + (d : Int))

theorem tdiv_bd (y : Int) (h : -9223372036854775808 ≤ y ∧ y ≤ 9223372036854775807) : -9223372036854775808 ≤ y.tdiv 10 ∧ y.tdiv 10 ≤ 9223372036854775807 := by
  have h1 : (y.tdiv 10).natAbs = y.natAbs / 10 := Int.natAbs_tdiv y 10
  generalize y.tdiv 10 = z at *
  omega
theorem tmod_cases (y : Int) (k : Nat) (h : y.natAbs = k) : (y.tmod 10 < 0 ∧ -y.tmod 10 = ((k % 10 : Nat) : Int)) ∨ y.tmod 10 = ((k % 10 : Nat) : Int) := by
  have h1 : (y.tmod 10).natAbs = y.natAbs % 10 := Int.natAbs_tmod y 10
  rw [h] at h1
  generalize y.tmod 10 = z at *
  omega
theorem tdiv_cases (y : Int) (k : Nat) (h : y.natAbs = k) : (k / 10 = 0 ∧ (y.tdiv 10 == 0) = true) ∨ (k / 10 ≠ 0 ∧ (y.tdiv 10 == 0) = false) := by
  have h1 : (y.tdiv 10).natAbs = y.natAbs / 10 := Int.natAbs_tdiv y 10
  rw [h] at h1
  generalize y.tdiv 10 = z at *
  by_cases hz : z = 0
  · left; subst hz; exact ⟨h1.symm, rfl⟩
  · right; exact ⟨by omega, by simpa using hz⟩
theorem w64_d (d : Nat) (h : d < 10) : wrap64 (48 + (d : Int)) = 48 + (d : Int) ∧ (48 + (d : Int)) % 256 = 48 + (d : Int) ∧ wrap64 (d : Int) = (d : Int) :=
  ⟨IntWalk.wrap64_in _ ⟨by omega, by omega⟩, by omega, IntWalk.wrap64_in _ ⟨by omega, by omega⟩⟩
theorem len19 {k L u : Nat} (h1 : k * 10 ^ L ≤ u) (h2 : L = 0 ∨ 1 ≤ k) (h3 : u < 10 ^ 19) : L < 20 := by
  rcases h2 with h | h
  · omega
  · rcases Nat.lt_or_ge L 20 with h2 | h2
    · exact h2
    · exfalso
      have h4 := Nat.pow_le_pow_right (show 0 < 10 by decide) h2
      have h5 : 1 * 10 ^ L ≤ k * 10 ^ L := Nat.mul_le_mul_right _ h
      have h6 : (10 : Nat) ^ 19 ≤ 10 ^ 20 := Nat.pow_le_pow_right (by decide) (by decide)
      have h7 : (10 : Nat) ^ 19 ≤ u := Nat.le_trans h6 (Nat.le_trans h4 (Nat.le_trans (by rw [Nat.one_mul] at h5; exact h5) h1))
      exact Nat.lt_irrefl _ (Nat.lt_of_lt_of_le h3 h7)
theorem pow_step {k L u : Nat} (h : k * 10 ^ L ≤ u) : k / 10 * 10 ^ (L + 1) ≤ u := by
  have h5 : k / 10 * (10 ^ L * 10) = k / 10 * 10 * 10 ^ L := by rw [Nat.mul_comm (10 ^ L) 10, Nat.mul_assoc]
  rw [Nat.pow_succ, h5]
  exact Nat.le_trans (Nat.mul_le_mul_right _ (Nat.div_mul_le_self _ _)) h
theorem nat63 {n : Int} (h0 : -9223372036854775808 ≤ n) (h1 : n ≤ 9223372036854775807) : n.natAbs < 10 ^ 19 := by
  have h : n.natAbs ≤ 9223372036854775808 := by omega
  exact Nat.lt_of_le_of_lt h (by decide)

theorem digits_c (n : Int) (h0 : -9223372036854775808 ≤ n) (h1 : n ≤ 9223372036854775807) (w : World) :
    Calls Tryd.prog 27 #[.int .i64 n] w fun e w' => e = .returned (.string ⟨(Lib.itoa n).toArray⟩) ∧ Old w w' := by
  obtain ⟨u, hu⟩ : ∃ u, u = n.natAbs := ⟨_, rfl⟩
  have Hu := Lib.hid hu
  have Hu63 := Lib.hid (show u < 10 ^ 19 by rw [hu]; exact nat63 h0 h1)
  have H01 := Lib.hid (And.intro h0 h1)
  clear h0 h1
  obtain ⟨mb, hmb⟩ : ∃ mb, mb = decide (n < 0) := ⟨_, rfl⟩
  have Hmb := Lib.hid hmb
  have g0 : decide (n < 0) = mb := hmb.symm
  clear hmb
  go_enter Tryd.func27, Tryd.ntmps27
  go_wp2
  go_loopg [0, 4] u (fun v z ls wr => ∃ (c' : Nat → Nat) (D : List Nat) (so : Option Addr) (scap : Nat) (y : Int), z = .int .i64 y ∧ ls = .slice so D.length scap ∧ Hid (y.natAbs = v) ∧ Hid (v * 10 ^ D.length ≤ u ∧ (D = [] ∨ 1 ≤ v)) ∧ Hid (-9223372036854775808 ≤ y ∧ y ≤ 9223372036854775807) ∧ Hid (Lib.decDigits u = Lib.decDigits v ++ D.reverse.map by48) ∧ Hid (Row c' 2 wr 5 1 so D.length scap (D.map dcell)) ∧ Hid (Stp (· = 2) (fun _ => 1) c' w wr))
  case atStart => exact ⟨fun _ => 1, [], none, 0, n, rfl, rfl, Lib.hid hu.symm, Lib.hid (by simp), H01, Lib.hid (by simp), Lib.hid (Row.nil _ _ _ _ _), Lib.hid (Stp.refl _ _ _)⟩
  case round =>
    obtain ⟨c', D, so, scap, y, rfl, rfl, Hv, HL, HY, HD, HR, HS⟩ := hrel
    obtain ⟨d, hd⟩ : ∃ d, d = gk % 10 := ⟨_, rfl⟩
    have hd10 : d < 10 := by omega
    have hD19 : D.length < 20 := len19 HL.out.1 (by rcases HL.out.2 with h | h; exact .inl (by rw [h]; rfl); exact .inr h) Hu63.out
    have D2 := Lib.hid (show D.length + 1 ≤ maxLen by simp only [maxLen]; omega)
    have D3 := Lib.hid (show (D.length + 1) * 1 ≤ 140737488355328 by omega)
    have HD20 := Lib.hid hD19
    have z1 : ((10 : Int) == 0) = false := by decide
    have z2 : ((10 : Int) == -1) = false := by decide
    have Hy2 := Lib.hid (tdiv_bd y HY.out)
    obtain ⟨y2, hy2⟩ : ∃ y2, y2 = y.tdiv 10 := ⟨_, rfl⟩
    rw [← hy2] at Hy2
    have Wq : wrap64 (y.tdiv 10) = y2 := by rw [hy2]; exact IntWalk.wrap64_in _ (tdiv_bd y HY.out)
    obtain ⟨e2, e3, e4⟩ := w64_d d hd10
    have Hq := Lib.hid (show y2.natAbs = gk / 10 by rw [hy2, Int.natAbs_tdiv, Hv.out]; rfl)
    have hz0 := tdiv_cases y gk Hv.out
    rw [← hy2] at hz0
    have Hz0 := Lib.hid hz0
    have hex := tmod_cases y gk Hv.out
    rw [← hd] at hex
    have Hd := Lib.hid hd
    have Hk := Lib.hid (pow_step HL.out.1)
    clear hd hd10 hD19 hz0 hy2
    rcases hex with ⟨x1, x2⟩ | x1
    · have g1 : decide (y.tmod 10 < 0) = true := by simpa using x1
      have e1 : wrap64 (-y.tmod 10) = (d : Int) := by rw [x2]; exact e4
      clear x1 x2
      go_wp2_with (at_builtin; refine wpList_append_row _ rfl (.tmp 16) (.tmp 20) 47 rfl (paint c' wr.heap.size 2) 2 5 (.int .u8 0) 1 1 Tryd.underlying47 Tryd.infoU8 rfl so D.length scap (D.map dcell) rfl (HR.out.alloc _ 2) _ 1 [dcell d] rfl (Src.one _ _ _) (by simp [Value.oneCell', dcell]) D2.out D3.out ?_)
      rintro so2 scap2 w3 r3 s3 -
      have R3 := Lib.hid (show Row _ 2 w3 5 1 so2 (D ++ [d]).length scap2 ((D ++ [d]).map dcell) by simpa using r3)
      have S3 := Lib.hid (HS.out.trans ((((Stp.refl _ _ _).alloc _ 2).trans s3)))
      clear r3 s3
      rcases Hz0.out with ⟨v0, y1⟩ | ⟨v0, y1⟩
      · have HF := Lib.hid (show Lib.decDigits u = (D ++ [d]).reverse.map by48 by rw [HD.out, dec_end v0, Hd.out]; simp)
        have HN := Lib.hid (show (D ++ [d]).length < 21 by have := HD20.out; simp; omega)
        rw [show D.length + 1 = (D ++ [d]).length by simp]
        generalize D ++ [d] = E at R3 HF HN ⊢
        clear e2 e3 g1 Hz0 Hk HD HL Hv
        have hE := HN.out
        have W0 : wrap64 ((E.length : Int) - 1) = (E.length : Int) - 1 := IntWalk.wrap64_in _ ⟨by omega, by omega⟩
        have OW := Lib.hid (show Old w w3 from S3.out.below (Nat.le_refl _) (fun _ _ => by decide))
        clear Hq Hy2 HY HR HS D2 D3 HD20 S3 Hd v0 H01 Hu63
        go_wp2
        go_loopg [6, 7] E.length (fun gh s i wr2 => wr2 = w3 ∧ i = .int .i64 ((gh : Int) - 1) ∧ gh ≤ E.length ∧ ∃ sb : ByteArray, s = .string sb ∧ Hid (sb = ⟨((E.drop gh).reverse.map by48).toArray⟩))
        case atStart => exact ⟨rfl, rfl, Nat.le_refl _, _, rfl, Lib.hid (by simp)⟩
        case round =>
          obtain ⟨hw, hi, hg, sb, hs, HSB⟩ := hrel
          subst hw hi hs
          clear Wq W0 e4 z1 z2 y1
          try clear e1
          match gk, hg, HSB with
          | 0, hg, HSB =>
            have i0 : decide ((0 : Int) ≤ ((0 : Nat) : Int) - 1) = false := by decide
            have hsb := HSB.out
            rw [List.drop_zero, ← HF.out] at hsb
            have HS2 := Lib.hid hsb
            have hsz : sb.size ≤ 100 := by
              rw [HSB.out]; simp [ByteArray.size]; omega
            have hsz1 : 1 + sb.size ≤ 9223372036854775807 := by omega
            clear HSB hsb hsz
            cases mb with
            | false =>
              go_wp2
              go_ret
              refine ⟨?_, OW.out⟩
              have hn : ¬ n < 0 := by have := Hmb.out; simpa using this.symm
              have hnu : n.toNat = u := by rw [Hu.out]; omega
              rw [HS2.out]
              unfold Lib.itoa
              rw [if_neg hn, hnu]
              rfl
            | true =>
              go_wp2
              go_ret
              refine ⟨?_, OW.out⟩
              have hn : n < 0 := by have := Hmb.out; simpa using this.symm
              rw [HS2.out]
              unfold Lib.itoa
              rw [if_pos hn, ← Hu.out]
              rfl
          | j + 1, hg, HSB =>
            have ej : ((j + 1 : Nat) : Int) - 1 = (j : Int) := by omega
            rw [ej]
            obtain ⟨a, ha, v, hv, hc⟩ := R3.out.toIn.at1 (j := j) (by omega)
            have hjl : j < E.length := by omega
            have hve : v = dcell E[j] := by
              rw [List.getElem?_map, List.getElem?_eq_getElem hjl] at hv
              exact (Option.some.inj hv).symm
            subst ha hve
            have hcap := R3.out.2.1
            have cv := conv_one (a.add j) (scap2 - j) E[j] _ hc
            have HD := Lib.hid (show ((E.drop j).reverse.map by48) = ((E.drop (j + 1)).reverse.map by48) ++ [by48 E[j]] by rw [List.drop_eq_getElem_cons hjl]; simp only [List.reverse_cons, List.map_append, List.map_cons, List.map_nil])
            generalize E[j] = dj at *
            have hsz : sb.size + 1 ≤ 9223372036854775807 := by rw [HSB.out]; simp [ByteArray.size]; omega
            generalize by48 dj = bb at *
            have w1 : wrap64 ((j : Int) + 1) = ((j + 1 : Nat) : Int) := by rw [IntWalk.wrap64_in _ ⟨by omega, by omega⟩]; omega
            have w2 : wrap64 ((j : Int) - 1) = (j : Int) - 1 := IntWalk.wrap64_in _ ⟨by omega, by omega⟩
            have i0 : decide ((0 : Int) ≤ (j : Int)) = true := by simp
            have i1 : (0 : Int) ≤ (j : Int) := by omega
            have i2 : (j : Int) ≤ ((j + 1 : Nat) : Int) := by omega
            have i3 : ((j + 1 : Nat) : Int) ≤ (scap2 : Int) := by omega
            have i4 : ¬ scap2 = j := by omega
            have i5 : j + 1 - j = 1 := by omega
            have HDD := Lib.hid HD.out
            have hg' := hg
            clear HN hE HF R3 OW hg hjl hcap ej hv
            go_wp2
            go_roundg j
            case rel => exact ⟨rfl, by rw [w2], by clear w1 w2; omega, _, rfl, Lib.hid (by rw [HSB.out, HDD.out, ← ByteArray.mk_append_mk])⟩
            case measure => clear w1 w2; omega
      · go_wp2
        go_roundg (gk / 10)
        case rel => exact ⟨_, D ++ [d], so2, scap2, y2, by rw [Wq], by simp, Hq, Lib.hid ⟨by simpa using Hk.out, .inr (by omega)⟩, Hy2, Lib.hid (by rw [HD.out, dec_more v0, Hd.out]; simp), R3, S3⟩
        case measure => exact Nat.div_lt_self (by omega) (by decide)
    · have g1 : decide ((d : Int) < 0) = false := by simp
      go_wp2_with (at_builtin; refine wpList_append_row _ rfl (.tmp 16) (.tmp 20) 47 rfl (paint c' wr.heap.size 2) 2 5 (.int .u8 0) 1 1 Tryd.underlying47 Tryd.infoU8 rfl so D.length scap (D.map dcell) rfl (HR.out.alloc _ 2) _ 1 [dcell d] rfl (Src.one _ _ _) (by simp [Value.oneCell', dcell]) D2.out D3.out ?_)
      rintro so2 scap2 w3 r3 s3 -
      have R3 := Lib.hid (show Row _ 2 w3 5 1 so2 (D ++ [d]).length scap2 ((D ++ [d]).map dcell) by simpa using r3)
      have S3 := Lib.hid (HS.out.trans ((((Stp.refl _ _ _).alloc _ 2).trans s3)))
      clear r3 s3
      rcases Hz0.out with ⟨v0, y1⟩ | ⟨v0, y1⟩
      · have HF := Lib.hid (show Lib.decDigits u = (D ++ [d]).reverse.map by48 by rw [HD.out, dec_end v0, Hd.out]; simp)
        have HN := Lib.hid (show (D ++ [d]).length < 21 by have := HD20.out; simp; omega)
        rw [show D.length + 1 = (D ++ [d]).length by simp]
        generalize D ++ [d] = E at R3 HF HN ⊢
        clear e2 e3 g1 Hz0 Hk HD HL Hv
        have hE := HN.out
        have W0 : wrap64 ((E.length : Int) - 1) = (E.length : Int) - 1 := IntWalk.wrap64_in _ ⟨by omega, by omega⟩
        have OW := Lib.hid (show Old w w3 from S3.out.below (Nat.le_refl _) (fun _ _ => by decide))
        clear Hq Hy2 HY HR HS D2 D3 HD20 S3 Hd v0 H01 Hu63
        go_wp2
        go_loopg [6, 7] E.length (fun gh s i wr2 => wr2 = w3 ∧ i = .int .i64 ((gh : Int) - 1) ∧ gh ≤ E.length ∧ ∃ sb : ByteArray, s = .string sb ∧ Hid (sb = ⟨((E.drop gh).reverse.map by48).toArray⟩))
        case atStart => exact ⟨rfl, rfl, Nat.le_refl _, _, rfl, Lib.hid (by simp)⟩
        case round =>
          obtain ⟨hw, hi, hg, sb, hs, HSB⟩ := hrel
          subst hw hi hs
          clear Wq W0 e4 z1 z2 y1
          try clear e1
          match gk, hg, HSB with
          | 0, hg, HSB =>
            have i0 : decide ((0 : Int) ≤ ((0 : Nat) : Int) - 1) = false := by decide
            have hsb := HSB.out
            rw [List.drop_zero, ← HF.out] at hsb
            have HS2 := Lib.hid hsb
            have hsz : sb.size ≤ 100 := by
              rw [HSB.out]; simp [ByteArray.size]; omega
            have hsz1 : 1 + sb.size ≤ 9223372036854775807 := by omega
            clear HSB hsb hsz
            cases mb with
            | false =>
              go_wp2
              go_ret
              refine ⟨?_, OW.out⟩
              have hn : ¬ n < 0 := by have := Hmb.out; simpa using this.symm
              have hnu : n.toNat = u := by rw [Hu.out]; omega
              rw [HS2.out]
              unfold Lib.itoa
              rw [if_neg hn, hnu]
              rfl
            | true =>
              go_wp2
              go_ret
              refine ⟨?_, OW.out⟩
              have hn : n < 0 := by have := Hmb.out; simpa using this.symm
              rw [HS2.out]
              unfold Lib.itoa
              rw [if_pos hn, ← Hu.out]
              rfl
          | j + 1, hg, HSB =>
            have ej : ((j + 1 : Nat) : Int) - 1 = (j : Int) := by omega
            rw [ej]
            obtain ⟨a, ha, v, hv, hc⟩ := R3.out.toIn.at1 (j := j) (by omega)
            have hjl : j < E.length := by omega
            have hve : v = dcell E[j] := by
              rw [List.getElem?_map, List.getElem?_eq_getElem hjl] at hv
              exact (Option.some.inj hv).symm
            subst ha hve
            have hcap := R3.out.2.1
            have cv := conv_one (a.add j) (scap2 - j) E[j] _ hc
            have HD := Lib.hid (show ((E.drop j).reverse.map by48) = ((E.drop (j + 1)).reverse.map by48) ++ [by48 E[j]] by rw [List.drop_eq_getElem_cons hjl]; simp only [List.reverse_cons, List.map_append, List.map_cons, List.map_nil])
            generalize E[j] = dj at *
            have hsz : sb.size + 1 ≤ 9223372036854775807 := by rw [HSB.out]; simp [ByteArray.size]; omega
            generalize by48 dj = bb at *
            have w1 : wrap64 ((j : Int) + 1) = ((j + 1 : Nat) : Int) := by rw [IntWalk.wrap64_in _ ⟨by omega, by omega⟩]; omega
            have w2 : wrap64 ((j : Int) - 1) = (j : Int) - 1 := IntWalk.wrap64_in _ ⟨by omega, by omega⟩
            have i0 : decide ((0 : Int) ≤ (j : Int)) = true := by simp
            have i1 : (0 : Int) ≤ (j : Int) := by omega
            have i2 : (j : Int) ≤ ((j + 1 : Nat) : Int) := by omega
            have i3 : ((j + 1 : Nat) : Int) ≤ (scap2 : Int) := by omega
            have i4 : ¬ scap2 = j := by omega
            have i5 : j + 1 - j = 1 := by omega
            have HDD := Lib.hid HD.out
            have hg' := hg
            clear HN hE HF R3 OW hg hjl hcap ej hv
            go_wp2
            go_roundg j
            case rel => exact ⟨rfl, by rw [w2], by clear w1 w2; omega, _, rfl, Lib.hid (by rw [HSB.out, HDD.out, ← ByteArray.mk_append_mk])⟩
            case measure => clear w1 w2; omega
      · go_wp2
        go_roundg (gk / 10)
        case rel => exact ⟨_, D ++ [d], so2, scap2, y2, by rw [Wq], by simp, Hq, Lib.hid ⟨by simpa using Hk.out, .inr (by omega)⟩, Hy2, Lib.hid (by rw [HD.out, dec_more v0, Hd.out]; simp), R3, S3⟩
        case measure => exact Nat.div_lt_self (by omega) (by decide)
end Go.Proofs.YtpknhaemfpmpkaaDoor
