/- What a law of two rings knows of its cells, in plain Lean. No condition beyond each law's own. -/
import Derived.Test.YtiphdedfbafhkaaDoorAvail2
import Derived.Test.YtiphdedfbafhkaaDoorMulY
import Derived.Test.YtiphdedfbafhkaaDoorRgA
import Derived.Test.YtiphdedfbafhkaaDoorRoomX
namespace Go.Proofs.YtiphdedfbafhkaaDoor
open Go.RowKit

section
variable {la : List Int} {first sh : Nat}
theorem showOne (la : List Int) (first sh : Nat) (k : Int) : showAll la first sh k 1 = la.set (first + slotOf sh k) (k / 2 ^ sh) := by
  simp [showAll]
theorem mod_ne {m a b : Int} (h1 : a < b) (h2 : b - a < m) : a % m ≠ b % m := fun h => by
  have h3 : m ∣ b - a :=
     Int.dvd_of_emod_eq_zero (by rw [Int.sub_emod, h, Int.sub_self, Int.zero_emod])
  have := Int.le_of_dvd (by omega) h3
  omega
/-- One index is shown: it is, and those within a round ahead of it stay as they were. -/
theorem shown_one (hsh : sh < 21) (hl : first + 2 ^ sh ≤ la.length) (k : Int) :
    shownAt (showAll la first sh k 1) first sh k = true ∧ ∀ s : Int, s < k → k - s < 2 ^ sh → shownAt (showAll la first sh k 1) first sh s = shownAt la first sh s := by
  rw [showOne]
  have hk1 := (slotOf_lt sh k hsh).1
  refine ⟨?_, fun s h1 h2 => ?_⟩
  · unfold shownAt
    simp [List.getD, show first + slotOf sh k < la.length by omega]
  · have hne : slotOf sh s ≠ slotOf sh k := fun e => mod_ne (m := 2 ^ sh) h1 h2 (by rw [← (slotOf_lt sh s hsh).2, ← (slotOf_lt sh k hsh).2, e])
    unfold shownAt
    simp [List.getD, List.getElem?_set_ne (show first + slotOf sh k ≠ first + slotOf sh s by omega)]

/-- A claim where nobody holds back, step by step: i steps are done. -/
def KT (S : Sq) (la : List Int) (n v : Int) (i : Nat) (la' : List Int) (t : Tr) : Prop :=
  t.n = n ∧ t.ids = [] ∧
    ((t.stage = 0 ∧ i = 0 ∧ la' = la) ∨ (t.claimed = v ∧ t.hi = v + n ∧
      ((t.stage = 1 ∧ i = 1 ∧ la' = la) ∨ (t.stage = 3 ∧ i = 2 ∧ la' = la ∧ t.most = v) ∨ (t.stage = 4 ∧ i ≤ 3 ∧ (la' = la ∨ la' = la.set S.cac v)) ∨ (t.stage = 5 ∧ i ≤ 4 ∧ (la' = la.set S.cur (v + n) ∨ la' = (la.set S.cac v).set S.cur (v + n))))))
theorem KT.start (S : Sq) (la : List Int) (n v : Int) : KT S la n v 0 la (Tr.start n) := ⟨rfl, rfl, .inl ⟨rfl, rfl, rfl⟩⟩
theorem KT.step {S : Sq} {n v : Int} {i : Nat} {la' : List Int} {t : Tr} (h : KT S la n v i la' t) (hS : S.ids = []) (hne : S.cur ≠ S.cac) (hv : la.getD S.cur 0 = v) (h1 : 1 ≤ n) (h2 : n ≤ 2 ^ S.sh) (hsh : n ≤ 1048576) (hv1 : -1 ≤ v) (hv2 : v + n ≤ 4611686018427387904) (h5 : t.stage < 5) :
    KT S la n v (i + 1) (stepT S la' t).1 (stepT S la' t).2.1 ∧ (stepT S la' t).2.2 = 0 := by
  obtain ⟨tn, stage, claimed, hi, ids, most⟩ := t
  obtain ⟨e1, e2, h⟩ := h
  simp only at e1 e2 h h5
  subst e1 e2
  rcases h with ⟨rfl, rfl, rfl⟩ | ⟨rfl, rfl, h⟩
  · have he : nextErr (la'.getD S.cur 0) tn = 0 := by
      rw [hv]; unfold nextErr
      rw [if_neg (by omega), if_neg (by omega), if_neg (by omega)]
    have e : stepT S la' ⟨tn, 0, claimed, hi, [], most⟩ = (la', ⟨tn, 1, v, v + tn, [], most⟩, 0) := by
      rw [stepT, if_neg (by simp), if_pos rfl, if_neg (fun h => h he), hv]
    rw [e]
    exact ⟨⟨rfl, rfl, .inr ⟨rfl, rfl, .inl ⟨rfl, rfl, rfl⟩⟩⟩, rfl⟩
  · rcases h with ⟨rfl, rfl, rfl⟩ | ⟨rfl, rfl, rfl, rfl⟩ | ⟨rfl, hi', hl⟩ | ⟨rfl, -, -⟩
    · by_cases hen : claimed + tn - 2 ^ S.sh ≤ la'.getD S.cac 0 ∧ la'.getD S.cac 0 ≤ claimed
      · have e : stepT S la' ⟨tn, 1, claimed, claimed + tn, [], most⟩ = (la', ⟨tn, 4, claimed, claimed + tn, [], most⟩, 0) := by
          rw [stepT, if_neg (by simp), if_neg (by simp), if_pos rfl, if_pos hen]
        rw [e]
        exact ⟨⟨rfl, rfl, .inr ⟨rfl, rfl, .inr (.inr (.inl ⟨rfl, by decide, .inl rfl⟩))⟩⟩, rfl⟩
      · have e : stepT S la' ⟨tn, 1, claimed, claimed + tn, [], most⟩ = (la', ⟨tn, 3, claimed, claimed + tn, [], claimed⟩, 0) := by
          rw [stepT, if_neg (by simp), if_neg (by simp), if_pos rfl, if_neg hen, if_pos hS, judgeT]
          simp only
          rw [if_neg (by omega)]
        rw [e]
        exact ⟨⟨rfl, rfl, .inr ⟨rfl, rfl, .inr (.inl ⟨rfl, rfl, rfl, rfl⟩)⟩⟩, rfl⟩
    · have e : stepT S la' ⟨tn, 3, most, most + tn, [], most⟩ = (la'.set S.cac most, ⟨tn, 4, most, most + tn, [], most⟩, 0) := by
        rw [stepT, if_neg (by simp), if_neg (by simp), if_neg (by simp), if_neg (by simp), if_pos rfl]
      rw [e]
      exact ⟨⟨rfl, rfl, .inr ⟨rfl, rfl, .inr (.inr (.inl ⟨rfl, by decide, .inr rfl⟩))⟩⟩, rfl⟩
    · have hq : la'.getD S.cur 0 = claimed := by
        rcases hl with rfl | rfl
        · exact hv
        · rw [← hv]; simp [List.getD, List.getElem?_set_ne (Ne.symm hne)]
      have e : stepT S la' ⟨tn, 4, claimed, claimed + tn, [], most⟩ = (la'.set S.cur (claimed + tn), ⟨tn, 5, claimed, claimed + tn, [], most⟩, 0) := by
        rw [stepT, if_neg (by simp), if_neg (by simp), if_neg (by simp), if_neg (by simp), if_neg (by simp), if_pos hq]
      rw [e]
      exact ⟨⟨rfl, rfl, .inr ⟨rfl, rfl, .inr (.inr (.inr ⟨rfl, by omega, by rcases hl with rfl | rfl; exact .inl rfl; exact .inr rfl⟩))⟩⟩, rfl⟩
    · omega
end
end Go.Proofs.YtiphdedfbafhkaaDoor

/- A law of two rings, one of either kind, that nobody holds back: what its calls answer, whichever ring. No condition beyond each contract's own. -/
namespace Go.Proofs.YtiphdedfbafhkaaDoor
open Go.RowKit

/-- What is known of the cells of two rings: up to where the first is claimed and published (a0, b0), the second one is claimed (a1), and shown from lo on (b1). -/
structure KF (sh : Nat) (sc : Int) (a0 b0 a1 lo b1 : Int) (la : List Int) (d0 d1 : RD) : Prop where
  m0 : d0.many = false
  m1 : d1.many = true
  s0 : d0.sh = sh
  s1 : d1.sh = sh
  i0 : d0.ids = []
  i1 : d1.ids = []
  u0 : d0.cur < la.length
  u1 : d1.cur < la.length
  x1 : d1.cac < la.length
  f1 : d1.first + 2 ^ sh ≤ la.length
  n1 : d0.cur < d1.cur
  n2 : d1.cur < d1.cac
  n3 : d1.cac < d1.first
  cl : d0.cl = a0 - 1
  ca : d0.ca ≤ d0.cl
  sc : 0 ≤ d0.sc ∧ d0.sc ≤ sc
  p0 : la.getD d0.cur 0 = b0 - 1
  c1 : la.getD d1.cur 0 = a1 - 1
  sw : ∀ s, lo ≤ s → s < b1 → shownAt la d1.first sh s = true

section
variable {sh : Nat} {sc a0 b0 a1 lo b1 : Int} {la : List Int} {d0 d1 : RD}
theorem getD_set_ne {la : List Int} {i j : Nat} (h : i ≠ j) (v : Int) : (la.set i v).getD j 0 = la.getD j 0 := by simp [List.getD, List.getElem?_set_ne h]
theorem getD_set_eq {la : List Int} {i : Nat} (h : i < la.length) (v : Int) : (la.set i v).getD i 0 = v := by simp [List.getD, h]
theorem shownAt_low {la : List Int} {first : Nat} {i : Nat} (h : i < first) (v s : Int) : shownAt (la.set i v) first sh s = shownAt la first sh s := by
  unfold shownAt
  rw [getD_set_ne (by omega)]
/-- The single ring is claimed. -/
theorem KF.one (h : KF sh sc a0 b0 a1 lo b1 la d0 d1) {x ca y : Int} (hca : ca ≤ x - 1) (hy : 0 ≤ y ∧ y ≤ sc) : KF sh sc x b0 a1 lo b1 la { d0 with cl := x - 1, ca := ca, sc := y } d1 :=
  ⟨h.m0, h.m1, h.s0, h.s1, h.i0, h.i1, h.u0, h.u1, h.x1, h.f1, h.n1, h.n2, h.n3, rfl, hca, hy, h.p0, h.c1, h.sw⟩
/-- The single ring is published. -/
theorem KF.pub (h : KF sh sc a0 b0 a1 lo b1 la d0 d1) (x : Int) : KF sh sc a0 (x + 1) a1 lo b1 (la.set d0.cur x) d0 d1 := by
  have := h.n1; have := h.n2; have := h.n3
  refine ⟨h.m0, h.m1, h.s0, h.s1, h.i0, h.i1, ?_, ?_, ?_, ?_, h.n1, h.n2, h.n3, h.cl, h.ca, h.sc, ?_, ?_, ?_⟩
  · rw [List.length_set]; exact h.u0
  · rw [List.length_set]; exact h.u1
  · rw [List.length_set]; exact h.x1
  · rw [List.length_set]; exact h.f1
  · rw [getD_set_eq h.u0]; omega
  · rw [getD_set_ne (by omega)]; exact h.c1
  · intro s h1 h2; rw [shownAt_low (by omega)]; exact h.sw s h1 h2
theorem KF.cac (h : KF sh sc a0 b0 a1 lo b1 la d0 d1) (x : Int) : KF sh sc a0 b0 a1 lo b1 (la.set d1.cac x) d0 d1 := by
  have := h.n1; have := h.n2; have := h.n3
  refine ⟨h.m0, h.m1, h.s0, h.s1, h.i0, h.i1, ?_, ?_, ?_, ?_, h.n1, h.n2, h.n3, h.cl, h.ca, h.sc, ?_, ?_, ?_⟩
  · rw [List.length_set]; exact h.u0
  · rw [List.length_set]; exact h.u1
  · rw [List.length_set]; exact h.x1
  · rw [List.length_set]; exact h.f1
  · rw [getD_set_ne (by omega)]; exact h.p0
  · rw [getD_set_ne (by omega)]; exact h.c1
  · intro s h1 h2; rw [shownAt_low (by omega)]; exact h.sw s h1 h2
/-- The second ring is claimed. -/
theorem KF.two (h : KF sh sc a0 b0 a1 lo b1 la d0 d1) (x : Int) : KF sh sc a0 b0 (x + 1) lo b1 (la.set d1.cur x) d0 d1 := by
  have := h.n1; have := h.n2; have := h.n3
  refine ⟨h.m0, h.m1, h.s0, h.s1, h.i0, h.i1, ?_, ?_, ?_, ?_, h.n1, h.n2, h.n3, h.cl, h.ca, h.sc, ?_, ?_, ?_⟩
  · rw [List.length_set]; exact h.u0
  · rw [List.length_set]; exact h.u1
  · rw [List.length_set]; exact h.x1
  · rw [List.length_set]; exact h.f1
  · rw [getD_set_ne (by omega)]; exact h.p0
  · rw [getD_set_eq h.u1]; omega
  · intro s h1 h2; rw [shownAt_low (by omega)]; exact h.sw s h1 h2
/-- One index of the second ring is shown. -/
theorem KF.show1 (h : KF sh sc a0 b0 a1 lo b1 la d0 d1) (hsh : sh < 21) (hl : b1 - lo < 2 ^ sh) : KF sh sc a0 b0 a1 lo (b1 + 1) (showAll la d1.first sh b1 1) d0 d1 := by
  have := h.n1; have := h.n2; have := h.n3
  obtain ⟨g1, g2⟩ := shown_one (la := la) (first := d1.first) hsh h.f1 b1
  have e := showOne la d1.first sh b1
  refine ⟨h.m0, h.m1, h.s0, h.s1, h.i0, h.i1, ?_, ?_, ?_, ?_, h.n1, h.n2, h.n3, h.cl, h.ca, h.sc, ?_, ?_, ?_⟩
  · rw [e, List.length_set]; exact h.u0
  · rw [e, List.length_set]; exact h.u1
  · rw [e, List.length_set]; exact h.x1
  · rw [e, List.length_set]; exact h.f1
  · rw [e, getD_set_ne (by omega)]; exact h.p0
  · rw [e, getD_set_ne (by omega)]; exact h.c1
  · intro s h1 h2
    by_cases hs : s = b1
    · rw [hs]; exact g1
    · rw [g2 s (by omega) (by omega)]; exact h.sw s h1 (by omega)
theorem KF.anew (h : KF sh sc a0 b0 a1 lo b1 la d0 d1) (x : Int) (sc' : Int) (hs : sc ≤ sc') : KF sh sc' a0 b0 a1 x x la d0 d1 :=
  ⟨h.m0, h.m1, h.s0, h.s1, h.i0, h.i1, h.u0, h.u1, h.x1, h.f1, h.n1, h.n2, h.n3, h.cl, h.ca, ⟨h.sc.1, by have := h.sc.2; omega⟩, h.p0, h.c1, fun s h1 h2 => by omega⟩
end

/-- A room's claim as numbers. -/
structure RV where
  b : Bool
  p1 : Option Addr
  a : Int
  so : Option Addr
  sn : Nat
  sc : Nat
  m : Int
  s : Bool
  d : Bool
  f : Bool
  p2 : Option Addr
  n : Int
  st : Int
  cl : Int
  hi : Int
  o2 : Option Addr
  n2 : Nat
  c2 : Nat
  mo : Int

/-- The room of the law. -/
structure KW (c0 : Nat → Nat) (w0 : World) (K r ar ck tb sh : Nat) (sc a0 b0 a1 lo b1 : Int) (la : List Int) (d0 d1 : RD) (ao : Option Addr) (cap : Nat) (c : Nat → Nat) (w : World) : Prop where
  st : Stp (K ≤ ·) c0 c w0 w
  rm : RMs c K w r ar ck tb la 0 [] [] [d0, d1] ao cap
  kf : KF sh sc a0 b0 a1 lo b1 la d0 d1
theorem KW.stpF {c0 : Nat → Nat} {w0 : World} {K r ar ck tb sh : Nat} {sc a0 b0 a1 lo b1 : Int} {la : List Int} {d0 d1 : RD} {ao : Option Addr} {cap : Nat} {c c' : Nat → Nat} {w w' : World} (h : KW c0 w0 K r ar ck tb sh sc a0 b0 a1 lo b1 la d0 d1 ao cap c w) (t : Stp (fun _ => False) c c' w w') : KW c0 w0 K r ar ck tb sh sc a0 b0 a1 lo b1 la d0 d1 ao cap c' w' :=
  ⟨h.st.trans (t.mono fun _ h => h.elim), h.rm.stpF t, h.kf⟩

/-- At ring i, for c indexes from next on: that ring is claimed up to x, published up to y. -/
def KG (c0 : Nat → Nat) (w0 : World) (K r ar ck tb sh : Nat) (sc : Int) (i : Nat) (next cn x y : Int) (c : Nat → Nat) (w : World) : Prop :=
  ∃ la d0 d1 ao cap, (i = 0 ∧ KW c0 w0 K r ar ck tb sh sc x y next next next la d0 d1 ao cap c w) ∨ (i = 1 ∧ KW c0 w0 K r ar ck tb sh sc (next + cn) (next + cn) x next y la d0 d1 ao cap c w)

/-- A claim of ring i under way: k steps are done; whether it is over. -/
def KC (c0 : Nat → Nat) (w0 : World) (K r ar ck tb sh : Nat) (sc : Int) (i : Nat) (next cn : Int) (k : Nat) (dn : Bool) (V : List Value) (c : Nat → Nat) (w : World) : Prop :=
  k ≤ 4 ∧ ∃ la d0 d1 ao cap,
    (i = 0 ∧ ∃ sao m scap most seen, V = [.bool false, .pointer (some ⟨d0.sp, 0, none⟩), .int .i64 (next + cn - 1), .slice sao m scap, .int .i64 most, .bool seen, .bool dn, .bool false, .pointer none, .int .i64 0, .int .i64 0, .int .i64 0, .int .i64 0, .slice none 0 0, .int .i64 0] ∧
      ((dn = true ∧ KW c0 w0 K r ar ck tb sh (sc + 1) (next + cn) next next next next la d0 d1 ao cap c w) ∨ (dn = false ∧ k = 0 ∧ sao = none ∧ m = 0 ∧ scap = 0 ∧ most = 0 ∧ seen = false ∧ KW c0 w0 K r ar ck tb sh sc next next next next next la d0 d1 ao cap c w))) ∨
    (i = 1 ∧ ∃ (t : Tr) (la0 : List Int) (tao : Option Addr) (tcap : Nat), V = [.bool true, .pointer none, .int .i64 0, .slice none 0 0, .int .i64 0, .bool false, .bool false, .bool false, .pointer (some ⟨d1.sp, 0, none⟩), .int .i64 t.n, .int .i64 (t.stage : Int), .int .i64 t.claimed, .int .i64 t.hi, .slice tao t.ids.length tcap, .int .i64 t.most] ∧
      KT ⟨d1.sh, d1.cur, d1.cac, d1.first, d1.ids⟩ la0 cn (next - 1) k la t ∧ KF sh sc (next + cn) (next + cn) next next next la0 d0 d1 ∧ dn = decide (5 ≤ t.stage) ∧
      In c (K + 14) w 1 tao t.ids.length tcap (t.ids.map (Value.int .i64)) ∧ TrOK la t ∧
      Stp (K ≤ ·) c0 c w0 w ∧ RMs c K w r ar ck tb la 0 [] [] [d0, d1] ao cap)

section
variable {c0 : Nat → Nat} {w0 : World} {K r ar ck tb sh : Nat} {sc : Int} {i : Nat} {next cn z y : Int} {c c' : Nat → Nat} {w w' : World} {k : Nat} {dn : Bool} {x : RV}
theorem KG.stpF (h : KG c0 w0 K r ar ck tb sh sc i next cn z y c w) (t : Stp (fun _ => False) c c' w w') : KG c0 w0 K r ar ck tb sh sc i next cn z y c' w' := by
  obtain ⟨la, d0, d1, ao, cap, ⟨hi, h⟩ | ⟨hi, h⟩⟩ := h
  · exact ⟨la, d0, d1, ao, cap, .inl ⟨hi, h.stpF t⟩⟩
  · exact ⟨la, d0, d1, ao, cap, .inr ⟨hi, h.stpF t⟩⟩
theorem KC.stpF {V : List Value} (h : KC c0 w0 K r ar ck tb sh sc i next cn k dn V c w) (t : Stp (fun _ => False) c c' w w') : KC c0 w0 K r ar ck tb sh sc i next cn k dn V c' w' := by
  obtain ⟨hk, la, d0, d1, ao, cap, ⟨hi, sao, m, scap, most, seen, hV, h⟩ | ⟨hi, u, la0, tao, tcap, hV, h1, h2, h3, h4, h5, h6, h7⟩⟩ := h
  · exact ⟨hk, la, d0, d1, ao, cap, .inl ⟨hi, sao, m, scap, most, seen, hV, h.imp (fun h => ⟨h.1, h.2.stpF t⟩) (fun h => ⟨h.1, h.2.1, h.2.2.1, h.2.2.2.1, h.2.2.2.2.1, h.2.2.2.2.2.1, h.2.2.2.2.2.2.1, h.2.2.2.2.2.2.2.stpF t⟩)⟩⟩
  · exact ⟨hk, la, d0, d1, ao, cap, .inr ⟨hi, u, la0, tao, tcap, hV, h1, h2, h3, h4.stp t id, h5, h6.trans (t.mono fun _ h => h.elim), h7.stpF t⟩⟩
/-- What the law's steps turn. -/
theorem JK : ∀ j, j = kb K 0 + 2 ∨ j = K + 10 → K ≤ j := fun j h => by unfold kb at h; omega

theorem next_ok {v n : Int} (h1 : 1 ≤ n) (h2 : n ≤ 1048576) (h3 : -1 ≤ v) (h4 : v + n ≤ 4611686018427387904) : nextErr v n = 0 := by
  unfold nextErr
  rw [if_neg (by omega), if_neg (by omega), if_neg (by omega)]

/-- Claim, of either ring. -/
theorem kclaim (h : KG c0 w0 K r ar ck tb sh sc i next cn next next c w) (hK : 2 ≤ K) (hsh : sh < 21) (h1 : 1 ≤ cn) (h2 : cn ≤ 2 ^ sh) (h0 : 0 ≤ next) (h3 : next ≤ 1048576) :
    Calls Tryd.prog 24 #[.pointer (some ⟨r, 0, none⟩), .int .i64 (i : Int), .int .i64 cn] w fun e w' => ∃ (x : RV) (dn : Bool) (c' : Nat → Nat), e = .returned (.tuple #[.agg #[.bool x.b, .pointer x.p1, .int .i64 x.a, .slice x.so x.sn x.sc, .int .i64 x.m, .bool x.s, .bool x.d, .bool x.f, .pointer x.p2, .int .i64 x.n, .int .i64 x.st, .int .i64 x.cl, .int .i64 x.hi, .slice x.o2 x.n2 x.c2, .int .i64 x.mo], .nilIface]) ∧ KC c0 w0 K r ar ck tb sh sc i next cn 0 dn [.bool x.b, .pointer x.p1, .int .i64 x.a, .slice x.so x.sn x.sc, .int .i64 x.m, .bool x.s, .bool x.d, .bool x.f, .pointer x.p2, .int .i64 x.n, .int .i64 x.st, .int .i64 x.cl, .int .i64 x.hi, .slice x.o2 x.n2 x.c2, .int .i64 x.mo] c' w' := by
  have hb := two_pow_bd sh hsh
  obtain ⟨la, d0, d1, ao, cap, ⟨hi, h⟩ | ⟨hi, h⟩⟩ := h
  · subst hi
    obtain ⟨st, rm, kf⟩ := h
    have e0 := kf.s0
    have ecl := kf.cl
    by_cases hx : d0.cl + cn - 2 ^ d0.sh ≤ d0.ca
    · refine (rclaim_done (i := 0) hK rm rfl kf.m0 (by rw [e0]; exact hsh) cn h1 (by rw [e0]; exact h2) (next_ok h1 (by omega) (by omega) (by omega)) (by omega) hx kf.ca).mono ?_
      rintro e w1 ⟨rfl, c1, t1, r1⟩
      refine ⟨⟨false, some ⟨d0.sp, 0, none⟩, d0.cl + cn, none, 0, 0, 0, false, true, false, none, 0, 0, 0, 0, none, 0, 0, 0⟩, true, c1, rfl, by decide, la, { d0 with cl := d0.cl + cn, ca := d0.ca, sc := d0.sc }, d1, ao, cap, .inl ⟨rfl, none, 0, 0, 0, false, ?_, .inl ⟨rfl, ?_⟩⟩⟩
      · rw [show d0.cl + cn = next + cn - 1 by omega]
      · refine ⟨st.trans (t1.mono JK), r1, ?_⟩
        have := kf.one (x := next + cn) (ca := d0.ca) (y := d0.sc) (by have := kf.ca; omega) kf.sc
        rw [show d0.cl + cn = next + cn - 1 by omega]
        exact this.anew next (sc + 1) (by omega)
    · refine (rclaim_wait (i := 0) hK rm rfl kf.m0 (by rw [e0]; exact hsh) cn h1 (by rw [e0]; exact h2) (next_ok h1 (by omega) (by omega) (by omega)) (by omega) (by omega)).mono ?_
      rintro e w1 ⟨rfl, c1, t1, r1⟩
      refine ⟨⟨false, some ⟨d0.sp, 0, none⟩, d0.cl + cn, none, 0, 0, 0, false, false, false, none, 0, 0, 0, 0, none, 0, 0, 0⟩, false, c1, rfl, by decide, la, d0, d1, ao, cap, .inl ⟨rfl, none, 0, 0, 0, false, ?_, .inr ⟨rfl, rfl, rfl, rfl, rfl, rfl, rfl, ?_⟩⟩⟩
      · rw [show d0.cl + cn = next + cn - 1 by omega]
      · exact ⟨st.trans (t1.mono fun _ h => h.elim), r1, kf⟩
  · subst hi
    obtain ⟨st, rm, kf⟩ := h
    have e1 := kf.s1
    refine (rclaim_m (i := 1) hK rm rfl kf.m1 cn h1 (by rw [e1]; exact h2)).mono ?_
    rintro e w1 ⟨rfl, c1, t1, r1⟩
    exact ⟨⟨true, none, 0, none, 0, 0, 0, false, false, false, some ⟨d1.sp, 0, none⟩, cn, 0, 0, 0, none, 0, 0, 0⟩, false, c1, rfl, by decide, la, d0, d1, ao, cap, .inr ⟨rfl, Tr.start cn, la, none, 0, rfl, KT.start _ _ _ _, kf, rfl, In.nil _ _ _ _ _, TrOK.start, st.trans (t1.mono fun _ h => h.elim), r1⟩⟩

theorem kdone (h : KC c0 w0 K r ar ck tb sh sc i next cn k dn [.bool x.b, .pointer x.p1, .int .i64 x.a, .slice x.so x.sn x.sc, .int .i64 x.m, .bool x.s, .bool x.d, .bool x.f, .pointer x.p2, .int .i64 x.n, .int .i64 x.st, .int .i64 x.cl, .int .i64 x.hi, .slice x.o2 x.n2 x.c2, .int .i64 x.mo] c w) :
    Calls Tryd.prog 25 #[.agg #[.bool x.b, .pointer x.p1, .int .i64 x.a, .slice x.so x.sn x.sc, .int .i64 x.m, .bool x.s, .bool x.d, .bool x.f, .pointer x.p2, .int .i64 x.n, .int .i64 x.st, .int .i64 x.cl, .int .i64 x.hi, .slice x.o2 x.n2 x.c2, .int .i64 x.mo]] w fun e w' => e = .returned (.bool dn) ∧ ∃ c', Stp (fun _ => False) c c' w w' ∧ KC c0 w0 K r ar ck tb sh sc i next cn k dn [.bool x.b, .pointer x.p1, .int .i64 x.a, .slice x.so x.sn x.sc, .int .i64 x.m, .bool x.s, .bool x.d, .bool x.f, .pointer x.p2, .int .i64 x.n, .int .i64 x.st, .int .i64 x.cl, .int .i64 x.hi, .slice x.o2 x.n2 x.c2, .int .i64 x.mo] c' w' := by
  obtain ⟨xb, xp1, xa, xso, xsn, xsc, xm, xs, xd, xf, xp2, xn, xst, xcl, xhi, xo2, xn2, xc2, xmo⟩ := x
  dsimp only at h ⊢
  have h' := h
  obtain ⟨-, la, d0, d1, ao, cap, ⟨hi, sao, m, scap, most, seen, hV, -⟩ | ⟨hi, u, la0, tao, tcap, hV, -, -, h3, -⟩⟩ := h'
  · cases hV
    refine (rcdone_s c _ _ _ _ _ _ _ dn false w).mono ?_
    rintro e w1 ⟨rfl, c1, t1⟩
    exact ⟨rfl, c1, t1, h.stpF t1⟩
  · cases hV
    refine (rcdone_m c _ _ _ _ _ _ _ _ _ w (b := dn) (by rw [h3]; simp; omega)).mono ?_
    rintro e w1 ⟨rfl, c1, t1⟩
    exact ⟨rfl, c1, t1, h.stpF t1⟩

theorem kfull (h : KC c0 w0 K r ar ck tb sh sc i next cn k dn [.bool x.b, .pointer x.p1, .int .i64 x.a, .slice x.so x.sn x.sc, .int .i64 x.m, .bool x.s, .bool x.d, .bool x.f, .pointer x.p2, .int .i64 x.n, .int .i64 x.st, .int .i64 x.cl, .int .i64 x.hi, .slice x.o2 x.n2 x.c2, .int .i64 x.mo] c w) :
    Calls Tryd.prog 27 #[.agg #[.bool x.b, .pointer x.p1, .int .i64 x.a, .slice x.so x.sn x.sc, .int .i64 x.m, .bool x.s, .bool x.d, .bool x.f, .pointer x.p2, .int .i64 x.n, .int .i64 x.st, .int .i64 x.cl, .int .i64 x.hi, .slice x.o2 x.n2 x.c2, .int .i64 x.mo]] w fun e w' => e = .returned (.bool false) ∧ ∃ c', Stp (fun _ => False) c c' w w' ∧ KC c0 w0 K r ar ck tb sh sc i next cn k dn [.bool x.b, .pointer x.p1, .int .i64 x.a, .slice x.so x.sn x.sc, .int .i64 x.m, .bool x.s, .bool x.d, .bool x.f, .pointer x.p2, .int .i64 x.n, .int .i64 x.st, .int .i64 x.cl, .int .i64 x.hi, .slice x.o2 x.n2 x.c2, .int .i64 x.mo] c' w' := by
  obtain ⟨xb, xp1, xa, xso, xsn, xsc, xm, xs, xd, xf, xp2, xn, xst, xcl, xhi, xo2, xn2, xc2, xmo⟩ := x
  dsimp only at h ⊢
  have h' := h
  obtain ⟨-, la, d0, d1, ao, cap, ⟨hi, sao, m, scap, most, seen, hV, -⟩ | ⟨hi, u, la0, tao, tcap, hV, kt, -, h3, -⟩⟩ := h'
  · cases hV
    refine (rcfull_s c _ _ _ _ _ _ _ dn w).mono ?_
    rintro e w1 ⟨rfl, c1, t1⟩
    exact ⟨rfl, c1, t1, h.stpF t1⟩
  · cases hV
    have h6 : u.stage ≠ 6 := by rcases kt.2.2 with ⟨h, -⟩ | ⟨-, -, ⟨h, -⟩ | ⟨h, -⟩ | ⟨h, -⟩ | ⟨h, -⟩⟩ <;> omega
    refine (rcfull_m c _ _ _ _ _ _ _ _ _ w (b := false) (by simp; omega)).mono ?_
    rintro e w1 ⟨rfl, c1, t1⟩
    exact ⟨rfl, c1, t1, h.stpF t1⟩

/-- Last, of a claim that is over. -/
theorem klast (h : KC c0 w0 K r ar ck tb sh sc i next cn k true [.bool x.b, .pointer x.p1, .int .i64 x.a, .slice x.so x.sn x.sc, .int .i64 x.m, .bool x.s, .bool x.d, .bool x.f, .pointer x.p2, .int .i64 x.n, .int .i64 x.st, .int .i64 x.cl, .int .i64 x.hi, .slice x.o2 x.n2 x.c2, .int .i64 x.mo] c w) :
    Calls Tryd.prog 28 #[.agg #[.bool x.b, .pointer x.p1, .int .i64 x.a, .slice x.so x.sn x.sc, .int .i64 x.m, .bool x.s, .bool x.d, .bool x.f, .pointer x.p2, .int .i64 x.n, .int .i64 x.st, .int .i64 x.cl, .int .i64 x.hi, .slice x.o2 x.n2 x.c2, .int .i64 x.mo]] w fun e w' => e = .returned (.int .i64 (next + cn - 1)) ∧ ∃ c', Stp (fun _ => False) c c' w w' ∧ KG c0 w0 K r ar ck tb sh (sc + 1) i next cn (next + cn) next c' w' := by
  obtain ⟨xb, xp1, xa, xso, xsn, xsc, xm, xs, xd, xf, xp2, xn, xst, xcl, xhi, xo2, xn2, xc2, xmo⟩ := x
  dsimp only at h ⊢
  obtain ⟨hk, la, d0, d1, ao, cap, ⟨hi, sao, m, scap, most, seen, hV, h⟩ | ⟨hi, u, la0, tao, tcap, hV, kt, kf, h3, -, -, st, rm⟩⟩ := h
  · cases hV
    refine (rclast_s c _ _ _ _ _ _ _ true false w (x := next + cn - 1) (by simp)).mono ?_
    rintro e w1 ⟨rfl, c1, t1⟩
    rcases h with ⟨-, h⟩ | ⟨h, -⟩
    · exact ⟨rfl, c1, t1, la, d0, d1, ao, cap, .inl ⟨hi, h.stpF t1⟩⟩
    · cases h
  · cases hV
    obtain ⟨e1, e2, kt⟩ := kt
    have h5 : u.stage = 5 ∧ u.hi = next - 1 + cn ∧ (la = la0.set d1.cur (next - 1 + cn) ∨ la = (la0.set d1.cac (next - 1)).set d1.cur (next - 1 + cn)) := by
      have h3 : 5 ≤ u.stage := by simpa using h3
      rcases kt with ⟨h, -⟩ | ⟨-, hh, ⟨h, -⟩ | ⟨h, -⟩ | ⟨h, -⟩ | ⟨h, -, hl⟩⟩
      · omega
      · omega
      · omega
      · omega
      · exact ⟨h, hh, hl⟩
    refine (rclast_m c _ _ _ _ _ _ _ _ _ w (x := next + cn - 1) (by rw [h5.1, h5.2.1]; simp; omega)).mono ?_
    rintro e w1 ⟨rfl, c1, t1⟩
    refine ⟨rfl, c1, t1, la, d0, d1, ao, cap, .inr ⟨hi, ⟨st.trans (t1.mono fun _ h => h.elim), rm.stpF t1, ?_⟩⟩⟩
    have e : next + cn = next - 1 + cn + 1 := by omega
    rcases h5.2.2 with hl | hl
    · rw [hl]
      have := (kf.two (next - 1 + cn)).anew next (sc + 1) (by omega)
      rw [← e] at this
      exact this
    · rw [hl]
      have := ((kf.cac (next - 1)).two (next - 1 + cn)).anew next (sc + 1) (by omega)
      rw [← e] at this
      exact this

/-- Step, of a claim that isn't over. -/
theorem kstep (h : KC c0 w0 K r ar ck tb sh sc i next cn k false [.bool x.b, .pointer x.p1, .int .i64 x.a, .slice x.so x.sn x.sc, .int .i64 x.m, .bool x.s, .bool x.d, .bool x.f, .pointer x.p2, .int .i64 x.n, .int .i64 x.st, .int .i64 x.cl, .int .i64 x.hi, .slice x.o2 x.n2 x.c2, .int .i64 x.mo] c w) (hK : 2 ≤ K) (hsh : sh < 21) (h1 : 1 ≤ cn) (h2 : cn ≤ 2 ^ sh) (h0 : 0 ≤ next) (h3 : next ≤ 1048576) (hsc : 0 ≤ sc ∧ sc ≤ 1048576) :
    Calls Tryd.prog 26 #[.agg #[.bool x.b, .pointer x.p1, .int .i64 x.a, .slice x.so x.sn x.sc, .int .i64 x.m, .bool x.s, .bool x.d, .bool x.f, .pointer x.p2, .int .i64 x.n, .int .i64 x.st, .int .i64 x.cl, .int .i64 x.hi, .slice x.o2 x.n2 x.c2, .int .i64 x.mo]] w fun e w' => ∃ (x : RV) (dn : Bool) (c' : Nat → Nat), e = .returned (.tuple #[.agg #[.bool x.b, .pointer x.p1, .int .i64 x.a, .slice x.so x.sn x.sc, .int .i64 x.m, .bool x.s, .bool x.d, .bool x.f, .pointer x.p2, .int .i64 x.n, .int .i64 x.st, .int .i64 x.cl, .int .i64 x.hi, .slice x.o2 x.n2 x.c2, .int .i64 x.mo], .nilIface]) ∧ Stp (K ≤ ·) c c' w w' ∧ KC c0 w0 K r ar ck tb sh sc i next cn (k + 1) dn [.bool x.b, .pointer x.p1, .int .i64 x.a, .slice x.so x.sn x.sc, .int .i64 x.m, .bool x.s, .bool x.d, .bool x.f, .pointer x.p2, .int .i64 x.n, .int .i64 x.st, .int .i64 x.cl, .int .i64 x.hi, .slice x.o2 x.n2 x.c2, .int .i64 x.mo] c' w' := by
  obtain ⟨xb, xp1, xa, xso, xsn, xsc, xm, xs, xd, xf, xp2, xn, xst, xcl, xhi, xo2, xn2, xc2, xmo⟩ := x
  dsimp only at h ⊢
  have hb := two_pow_bd sh hsh
  obtain ⟨hk, la, d0, d1, ao, cap, ⟨hi, sao, m, scap, most, seen, hV, h⟩ | ⟨hi, u, la0, tao, tcap, hV, kt, kf, h3', hin, htr, st, rm⟩⟩ := h
  · subst hi
    rcases h with ⟨h, -⟩ | ⟨-, rfl, rfl, rfl, rfl, rfl, rfl, st, rm, kf⟩
    · cases h
    cases hV
    have ep := kf.p0
    have e0 := kf.s0
    have es := kf.sc
    refine (rcstep_s (i := 0) hK rm rfl kf.m0 (next + cn - 1) kf.u0 (by omega) (by rw [kf.i0]; rfl) (by omega) (by rw [e0]; exact hsh) (by rw [ep, e0]; omega)).mono ?_
    rintro e w1 ⟨tao', m, cap', rfl, c1, t1, r1⟩
    refine ⟨⟨false, some ⟨d0.sp, 0, none⟩, next + cn - 1, tao', m, cap', la.getD d0.cur 0, true, true, false, none, 0, 0, 0, 0, none, 0, 0, 0⟩, true, c1, rfl, t1.mono JK, by decide, la, { d0 with cl := next + cn - 1, ca := la.getD d0.cur 0, sc := d0.sc + 1 }, d1, ao, cap, .inl ⟨rfl, tao', m, cap', _, true, rfl, .inl ⟨rfl, st.trans (t1.mono JK), r1, ?_⟩⟩⟩
    have h := (kf.anew next (sc + 1) (by omega)).one (x := next + cn) (ca := la.getD d0.cur 0) (y := d0.sc + 1) (by omega) (by omega)
    exact h
  · subst hi
    cases hV
    have h5 : u.stage < 5 := by
      have : ¬ 5 ≤ u.stage := by simpa using h3'
      omega
    have hk3 : k ≤ 3 := by
      rcases kt.2.2 with ⟨-, h, -⟩ | ⟨-, -, ⟨-, h, -⟩ | ⟨-, h, -⟩ | ⟨-, h, -⟩ | ⟨h, -⟩⟩ <;> omega
    have hcv : la0.getD d1.cur 0 = next - 1 := kf.c1
    obtain ⟨ks, kz⟩ := KT.step kt kf.i1 (by have := kf.n2; simp only; omega) hcv h1 (by simp only; rw [kf.s1]; exact h2) (by omega) (by omega) (by omega) h5
    have hlen : la.length = la0.length := by
      rcases kt.2.2 with ⟨-, -, rfl⟩ | ⟨-, -, ⟨-, -, rfl⟩ | ⟨-, -, rfl, -⟩ | ⟨-, -, rfl | rfl⟩ | ⟨-, -, rfl | rfl⟩⟩ <;> simp
    have hSq : SqOK la ⟨d1.sh, d1.cur, d1.cac, d1.first, d1.ids⟩ := ⟨by simp only; rw [hlen]; exact kf.u1, by simp only; rw [hlen]; exact kf.x1, by simp only; rw [kf.s1]; exact hsh, by simp only; rw [kf.i1]; simp, by simp only; rw [kf.i1]; simp⟩
    have HT := TrOK.step hSq htr
    refine (rcstep_m (i := 1) hK rm rfl kf.m1 hin hSq htr h5).mono ?_
    rintro e w1 ⟨t', la', er, tao', tcap', ev, HE, rfl, c1, t1, r1, i1, he⟩
    rw [HE.out] at ks kz HT
    simp only at ks kz HT
    have hev : ev = .nilIface := by
      rcases he with ⟨-, h⟩ | ⟨h, -⟩
      · exact h
      · exact absurd kz h
    subst hev
    exact ⟨⟨true, none, 0, none, 0, 0, 0, false, false, false, some ⟨d1.sp, 0, none⟩, t'.n, t'.stage, t'.claimed, t'.hi, tao', t'.ids.length, tcap', t'.most⟩, decide (5 ≤ t'.stage), c1, rfl, t1.mono (fun j h => by omega), by omega, la', d0, d1, ao, cap, .inr ⟨rfl, t', la0, tao', tcap', rfl, ks, kf, rfl, i1, HT, st.trans (t1.mono fun j h => by omega), r1⟩⟩

/-- Show, of either ring. -/
theorem kshow (h : KG c0 w0 K r ar ck tb sh sc i next cn (next + cn) y c w) (hsh : sh < 21) (h1 : 1 ≤ cn) (h2 : cn ≤ 2 ^ sh) (h0 : 0 ≤ next) (h3 : next ≤ 1048576) (h4 : next ≤ y) (h5 : y < next + cn) :
    Calls Tryd.prog 29 #[.pointer (some ⟨r, 0, none⟩), .int .i64 (i : Int), .int .i64 y, .int .i64 (next + cn - 1)] w fun e w' => ∃ t2 c', e = .returned (.tuple #[.int .i64 t2, .nilIface]) ∧ y < t2 ∧ t2 ≤ next + cn ∧ KG c0 w0 K r ar ck tb sh sc i next cn (next + cn) t2 c' w' := by
  have hb := two_pow_bd sh hsh
  obtain ⟨la, d0, d1, ao, cap, ⟨hi, st, rm, kf⟩ | ⟨hi, st, rm, kf⟩⟩ := h
  · subst hi
    have ep := kf.p0
    have ec := kf.cl
    refine (rshow_s (i := 0) rm rfl kf.m0 kf.u0 y (next + cn - 1) (by omega) (by omega) (by omega) (by omega)).mono ?_
    rintro e w1 ⟨rfl, c1, t1, r1⟩
    refine ⟨_, c1, rfl, by omega, by omega, _, d0, d1, ao, cap, .inl ⟨rfl, st.trans (t1.mono fun j h => by omega), r1, ?_⟩⟩
    exact kf.pub (next + cn - 1)
  · subst hi
    have ec := kf.c1
    refine (rshow_m (i := 1) rm rfl kf.m1 kf.u1 ec (by rw [kf.s1]; exact kf.f1) y (next + cn - 1) (by omega) (by omega) (by omega) (by omega)).mono ?_
    rintro e w1 ⟨rfl, c1, t1, r1⟩
    rw [kf.s1] at r1
    exact ⟨_, c1, rfl, by omega, by omega, _, d0, d1, ao, cap, .inr ⟨rfl, st.trans (t1.mono fun j h => by omega), r1, kf.show1 hsh (by omega)⟩⟩

/-- Published, of either ring, behind all its shows. -/
theorem kpub (h : KG c0 w0 K r ar ck tb sh sc i next cn (next + cn) (next + cn) c w) (hsh : sh < 21) (h1 : 1 ≤ cn) (h2 : cn ≤ 2 ^ sh) (h0 : 0 ≤ next) (h3 : next ≤ 1048576) :
    Calls Tryd.prog 30 #[.pointer (some ⟨r, 0, none⟩), .int .i64 (i : Int), .int .i64 next] w fun e w' => e = .returned (.tuple #[.int .i64 (next + cn - 1), .nilIface]) ∧ ∃ c', KG c0 w0 K r ar ck tb sh sc i next cn (next + cn) (next + cn) c' w' := by
  have hb := two_pow_bd sh hsh
  obtain ⟨la, d0, d1, ao, cap, ⟨hi, st, rm, kf⟩ | ⟨hi, st, rm, kf⟩⟩ := h
  · subst hi
    have ep := kf.p0
    have HP := rpub_s (i := 0) rm rfl kf.m0 kf.u0 next h0 (by omega) (by omega)
    rw [ep] at HP
    refine HP.mono ?_
    rintro e w1 ⟨rfl, c1, t1, r1⟩
    exact ⟨rfl, c1, la, d0, d1, ao, cap, .inl ⟨rfl, st.trans (t1.mono fun j h => by omega), r1, kf⟩⟩
  · subst hi
    have ec := kf.c1
    refine (rpub_m (i := 1) rm rfl kf.m1 kf.u1 ec (by rw [kf.s1]; exact kf.f1) next h0 (by omega) (by omega) (by omega)).mono ?_
    rintro e w1 ⟨x, rfl, hx, c1, t1, r1⟩
    rw [kf.s1] at hx
    have : x = next + cn - 1 := hx.uniq ⟨by omega, .inl (Int.le_refl _), fun s a b => kf.sw s a (by omega), fun h => absurd h (Int.lt_irrefl _)⟩
    subst this
    exact ⟨rfl, c1, la, d0, d1, ao, cap, .inr ⟨rfl, st.trans (t1.mono fun j h => by omega), r1, kf⟩⟩

/-- On to the other ring. -/
theorem KG.next0 (h : KG c0 w0 K r ar ck tb sh sc 0 next cn (next + cn) (next + cn) c w) : KG c0 w0 K r ar ck tb sh sc 1 next cn next next c w := by
  obtain ⟨la, d0, d1, ao, cap, ⟨hi, h⟩ | ⟨hi, h⟩⟩ := h
  · exact ⟨la, d0, d1, ao, cap, .inr ⟨rfl, h⟩⟩
  · cases hi
theorem KG.next1 (h : KG c0 w0 K r ar ck tb sh sc 1 next cn (next + cn) (next + cn) c w) (cn' : Int) : KG c0 w0 K r ar ck tb sh sc 0 (next + cn) cn' (next + cn) (next + cn) c w := by
  obtain ⟨la, d0, d1, ao, cap, ⟨hi, h⟩ | ⟨hi, h⟩⟩ := h
  · cases hi
  · exact ⟨la, d0, d1, ao, cap, .inl ⟨rfl, h.st, h.rm, h.kf.anew _ _ (Int.le_refl _)⟩⟩
end
end Go.Proofs.YtiphdedfbafhkaaDoor

/- The walk of the law RoomKinds. No condition but that the table of math/bits holds what the program lays there. -/
namespace Go.Proofs.YtiphdedfbafhkaaDoor
open Go.RowKit

theorem KF.start {sh : Nat} (g gp g' mp bp gp' : Nat) (sl sl' : Value) (mp0 : Nat) : KF sh 0 0 0 0 0 0 ([] ++ [-1] ++ [-1] ++ [-1] ++ List.replicate (2 ^ sh) (-1)) ⟨false, sh, g, sl, mp0, 0, gp, ([] : List Int).length, 0, 0, -1, -1, 0, [], [], none, 0⟩ ⟨true, sh, g', sl', mp, bp, gp', ([] ++ [-1] : List Int).length, ([] ++ [-1] : List Int).length + 1, ([] ++ [-1] : List Int).length + 2, 0, 0, 0, [], [], none, 0⟩ := by
  refine ⟨rfl, rfl, rfl, rfl, rfl, rfl, ?_, ?_, ?_, ?_, ?_, ?_, ?_, ?_, ?_, ?_, ?_, ?_, fun s h1 h2 => by omega⟩ <;> simp
  omega

/-- What goes round by round. -/
def KR (w0 : World) (r ar ck tb sh m : Nat) (nv iv : Value) (wr : World) : Prop :=
  ∃ (j : Nat) (next : Int) (c : Nat → Nat), nv = .int .i64 next ∧ iv = .int .i64 j ∧ Hid (j ≤ m) ∧ Hid (0 ≤ next ∧ next ≤ 32 * (j : Int)) ∧ Hid (KG (fun _ => 0) w0 2 r ar ck tb sh (2 * (j : Int)) 0 next 0 next next c wr)
def KR2 (w0 : World) (r ar ck tb sh j : Nat) (next cn : Int) (iv : Value) (wr : World) : Prop :=
  ∃ (i : Nat) (c : Nat → Nat), iv = .int .i64 i ∧ ((i < 2 ∧ Hid (KG (fun _ => 0) w0 2 r ar ck tb sh (2 * (j : Int) + (i : Int)) i next cn next next c wr)) ∨ (i = 2 ∧ Hid (KG (fun _ => 0) w0 2 r ar ck tb sh (2 * ((j + 1 : Nat) : Int)) 0 (next + cn) 0 (next + cn) (next + cn) c wr)))
theorem KG.end_ {c0 c : Nat → Nat} {w0 w : World} {K r ar ck tb sh : Nat} {sc next cn x y : Int} {i : Nat} (h : KG c0 w0 K r ar ck tb sh sc i next cn x y c w) : Stp (K ≤ ·) c0 c w0 w := by
  obtain ⟨la, d0, d1, ao, cap, ⟨-, h⟩ | ⟨-, h⟩⟩ := h
  · exact h.st
  · exact h.st

theorem KC.stp0 {c0 c c' : Nat → Nat} {w0 w w' : World} {K r ar ck tb sh : Nat} {sc next cn : Int} {i k : Nat} {dn : Bool} {V : List Value} (h : KC c0 w0 K r ar ck tb sh sc i next cn k dn V c w) (t : Stp (· = 0) c c' w w') (hK : 2 ≤ K := by decide) (hn : Stp (K ≤ ·) c0 c' w0 w') : KC c0 w0 K r ar ck tb sh sc i next cn k dn V c' w' := by
  obtain ⟨hk, la, d0, d1, ao, cap, ⟨hi, sao, m, scap, most, seen, hV, h⟩ | ⟨hi, u, la0, tao, tcap, hV, h1, h2, h3, h4, h5, h6, h7⟩⟩ := h
  · exact ⟨hk, la, d0, d1, ao, cap, .inl ⟨hi, sao, m, scap, most, seen, hV, h.imp (fun h => ⟨h.1, hn, h.2.rm.stp0 hK t, h.2.kf⟩) (fun h => ⟨h.1, h.2.1, h.2.2.1, h.2.2.2.1, h.2.2.2.2.1, h.2.2.2.2.2.1, h.2.2.2.2.2.2.1, hn, h.2.2.2.2.2.2.2.rm.stp0 hK t, h.2.2.2.2.2.2.2.kf⟩)⟩⟩
  · exact ⟨hk, la, d0, d1, ao, cap, .inr ⟨hi, u, la0, tao, tcap, hV, h1, h2, h3, h4.stp t (by omega), h5, hn, h7.stp0 hK t⟩⟩
theorem KC.st {c0 c : Nat → Nat} {w0 w : World} {K r ar ck tb sh : Nat} {sc next cn : Int} {i k : Nat} {dn : Bool} {V : List Value} (h : KC c0 w0 K r ar ck tb sh sc i next cn k dn V c w) : Stp (K ≤ ·) c0 c w0 w := by
  obtain ⟨hk, la, d0, d1, ao, cap, ⟨hi, sao, m, scap, most, seen, hV, h | h⟩ | ⟨hi, u, la0, tao, tcap, hV, h1, h2, h3, h4, h5, h6, h7⟩⟩ := h
  · exact h.2.st
  · exact h.2.2.2.2.2.2.2.st
  · exact h6
theorem k_meas (k : Nat) (h : k + 1 ≤ 4) : 5 - (intOf (.int .i64 ((k + 1 : Nat) : Int))).toNat < 5 - (intOf (.int .i64 (k : Int))).toNat := by
  show 5 - ((k + 1 : Nat) : Int).toNat < 5 - (k : Int).toNat
  omega
theorem i_meas (k : Nat) (h : k < 2) : 2 - (intOf (.int .i64 ((k + 1 : Nat) : Int))).toNat < 2 - (intOf (.int .i64 (k : Int))).toNat := by
  show 2 - ((k + 1 : Nat) : Int).toNat < 2 - (k : Int).toNat
  omega
theorem m_meas (m k : Nat) (h : k < m) : m - (intOf (.int .i64 ((k + 1 : Nat) : Int))).toNat < m - (intOf (.int .i64 (k : Int))).toNat := by
  show m - ((k + 1 : Nat) : Int).toNat < m - (k : Int).toNat
  omega
theorem a_meas {a b e : Int} (h : b < a) (h2 : b < e) : (e - intOf (.int .i64 a)).toNat < (e - intOf (.int .i64 b)).toNat := by
  show (e - a).toNat < (e - b).toNat
  omega
theorem k_next {w0 w : World} {r ar ck tb sh j i : Nat} {next cn : Int} {c : Nat → Nat} {iv : Value} (hi : i < 2) (h : Hid (KG (fun _ => 0) w0 2 r ar ck tb sh (2 * (j : Int) + (i : Int) + 1) i next cn (next + cn) (next + cn) c w)) (e : iv = .int .i64 ((i + 1 : Nat) : Int)) : KR2 w0 r ar ck tb sh j next cn iv w := by
  rcases (show i = 0 ∨ i = 1 by omega) with rfl | rfl
  · exact ⟨1, c, e, .inl ⟨by decide, Lib.hid (by have := h.out.next0; simpa using this)⟩⟩
  · refine ⟨2, c, e, .inr ⟨rfl, Lib.hid ?_⟩⟩
    have := h.out.next1 0
    have e2 : 2 * ((j + 1 : Nat) : Int) = 2 * (j : Int) + ((1 : Nat) : Int) + 1 := by omega
    rw [e2]
    exact this

/-- What goes step by step of a claim. -/
def KS (w0 : World) (r ar ck tb sh j i : Nat) (next cn : Int) (xb : Nat) (gv iv : Value) (wr : World) : Prop :=
  ∃ (k : Nat) (xu : RV) (dn : Bool) (c : Nat → Nat), gv = .nilIface ∧ iv = .int .i64 k ∧ Hid (k ≤ 4) ∧ Hid (KC (fun _ => 0) w0 2 r ar ck tb sh (2 * (j : Int) + (i : Int)) i next cn k dn [.bool xu.b, .pointer xu.p1, .int .i64 xu.a, .slice xu.so xu.sn xu.sc, .int .i64 xu.m, .bool xu.s, .bool xu.d, .bool xu.f, .pointer xu.p2, .int .i64 xu.n, .int .i64 xu.st, .int .i64 xu.cl, .int .i64 xu.hi, .slice xu.o2 xu.n2 xu.c2, .int .i64 xu.mo] c wr) ∧ Hid (Blk c 0 wr xb [.bool xu.b, .pointer xu.p1, .int .i64 xu.a, .slice xu.so xu.sn xu.sc, .int .i64 xu.m, .bool xu.s, .bool xu.d, .bool xu.f, .pointer xu.p2, .int .i64 xu.n, .int .i64 xu.st, .int .i64 xu.cl, .int .i64 xu.hi, .slice xu.o2 xu.n2 xu.c2, .int .i64 xu.mo] 66)
/-- What goes show by show. -/
def KA (w0 : World) (r ar ck tb sh j i : Nat) (next cn : Int) (av : Value) (wr : World) : Prop :=
  ∃ (y : Int) (c : Nat → Nat), av = .int .i64 y ∧ Hid (next ≤ y ∧ y ≤ next + cn) ∧ Hid (KG (fun _ => 0) w0 2 r ar ck tb sh (2 * (j : Int) + (i : Int) + 1) i next cn (next + cn) y c wr)

set_option maxRecDepth 100000 in
set_option maxHeartbeats 100000000 in
theorem rkinds_in (s sh : Nat) (so : Option Addr) (m scap : Nat) (sizes : List Int) (w : World) (hsh : s % 6 = sh) (hm : m ≤ 60)
    (hs : In (fun _ => 0) 0 w 1 so m scap (sizes.map (Value.int .u8))) (hr : ∀ x ∈ sizes, 0 ≤ x ∧ x ≤ 255) (ht : Tab w) :
    Calls Tryd.prog 5 #[.int .u8 s, .slice so m scap] w fun e w' => e = .returned (.bool true) ∧ Below w.heap.size w w' := by
  have HI := Lib.hid hs
  have Hr := Lib.hid hr
  have Ht := Lib.hid ht
  have Hm := Lib.hid hm
  have Hln := Lib.hid (show sizes.length = m by simpa using hs.1)
  have Hsh := Lib.hid (show sh < 6 by omega)
  have t1 : decide ((60 : Int) < (m : Int)) = false := by simp; omega
  have hw2 := wrap_two_pow sh (by omega)
  have hNN : wrap64 (2 ^ (s % 6)) = 2 ^ sh := by rw [hsh, hw2]
  clear hs hr ht hm hw2 hsh
  go_enter Tryd.func5, Tryd.ntmps5
  go_wp2_with fail
  refine (rmnew_c (fun _ => 0) 2 w).mono ?_
  rintro e w1 ⟨r, ar, ck, tb, rfl, c1, s1, m1⟩
  have S1 := Lib.hid s1
  have M1 := Lib.hid (RMs.start m1)
  clear s1 m1
  go_wp2_with fail
  try simp only [hNN]
  clear hNN
  have HC1 := Lib.hid (show c1 1 = 0 from S1.out.col _ (World.block_lt_of_cell? w _ (Ht.out 0 (by decide))))
  have HB := Lib.hid (two_pow_bd sh (by have := Hsh.out; omega))
  refine (rring_s M1.out (by decide) (j := 0) rfl sh (by have := Hsh.out; omega) (by decide) (Ht.out.stp S1.out (by decide)) HC1.out (Nat.le_refl 2) (n := 2 ^ sh) (by simp)).mono ?_
  rintro e w2 ⟨rfl, g, sp, mp, gp, ao1, cap1, c2, s2, m2, -⟩
  have S2 := Lib.hid (S1.out.trans s2)
  have M2 := Lib.hid m2
  have HC2 := Lib.hid (show c2 1 = 0 from S2.out.col _ (World.block_lt_of_cell? w _ (Ht.out 0 (by decide))))
  clear s2 m2 M1 S1 HC1
  go_wp2_with fail
  refine (rring_m M2.out (by simp) (j := 1) rfl sh (by have := Hsh.out; omega) (by have := HB.out; simp; omega) (Ht.out.stp S2.out (by decide)) HC2.out (Nat.le_refl 2) (n := 2 ^ sh) (by simp)).mono ?_
  rintro e w3 ⟨rfl, g', sp', mp', bp', gp', ao2, cap2, c3, s3, m3, -⟩
  have G3 := Lib.hid (show KG (fun _ => 0) w 2 r ar ck tb sh (2 * ((0 : Nat) : Int)) 0 0 0 0 0 c3 w3 from ⟨_, _, _, ao2, cap2, .inl ⟨rfl, S2.out.trans s3, m3, KF.start _ _ _ _ _ _ _ _ _⟩⟩)
  clear s3 m3 M2 S2 HC2
  go_wp2_with fail
  go_loopw [11, 60] (fun nv iv wr => KR w r ar ck tb sh m nv iv wr) (fun _ i _ => m - (intOf i).toNat)
  case atStart => exact ⟨0, 0, c3, rfl, rfl, Lib.hid (Nat.zero_le _), Lib.hid (by simp), G3⟩
  case round =>
    clear G3
    obtain ⟨j, next, c4, rfl, rfl, Hj, Hnx, HG⟩ := hrel
    by_cases hlt : j < m
    · have hjl : j < sizes.length := by rw [Hln.out]; exact hlt
      obtain ⟨a, ha, y0⟩ := (HI.out.stp HG.out.end_ (by decide)).ints (j := j) hlt
      subst ha
      have HT := Lib.hid (Hr.out (sizes.getD j 0) (by simp [List.getD, hjl]))
      generalize sizes.getD j 0 = k at *
      obtain ⟨cn, hcn⟩ : ∃ cn, cn = k % 2 ^ sh + 1 := ⟨_, rfl⟩
      have hp : (0 : Int) < 2 ^ sh := Int.pow_pos (by decide)
      have hp5 : (2 : Int) ^ sh ≤ 32 := by
        have h := Hsh.out
        rcases (show sh = 0 ∨ sh = 1 ∨ sh = 2 ∨ sh = 3 ∨ sh = 4 ∨ sh = 5 by omega) with rfl | rfl | rfl | rfl | rfl | rfl <;> decide
      have hm0 := Int.emod_nonneg k (show (2 : Int) ^ sh ≠ 0 by omega)
      have hm1 := Int.emod_lt_of_pos k hp
      have HCN := Lib.hid (show 1 ≤ cn ∧ cn ≤ 2 ^ sh ∧ cn ≤ 32 by omega)
      have F1 : wrap64 k = k := IntWalk.wrap64_in _ (by have := HT.out; constructor <;> omega)
      have F2 : k.tmod (2 ^ sh) = k % 2 ^ sh := Int.tmod_eq_emod_of_nonneg HT.out.1
      have F3 : ((2 : Int) ^ sh == 0) = false := by simp; omega
      have F4 : wrap64 (k % 2 ^ sh + 1) = cn := by rw [← hcn]; exact IntWalk.wrap64_in _ (by constructor <;> omega)
      have F5 : wrap64 (k % 2 ^ sh) = k % 2 ^ sh := IntWalk.wrap64_in _ (by constructor <;> omega)
      have HNX := Lib.hid (show 0 ≤ next ∧ next ≤ 1048576 by have := Hnx.out; have := Hm.out; omega)
      have W1 := Lib.hid (show wrap64 ((j : Int) + 1) = ((j + 1 : Nat) : Int) by rw [IntWalk.wrap64_in _ ⟨by have := Hm.out; omega, by have := Hm.out; omega⟩]; omega)
      have W2 := Lib.hid (show wrap64 (next + cn) = next + cn from IntWalk.wrap64_in _ (by have := HNX.out; have := HCN.out; constructor <;> omega))
      have W3 := Lib.hid (show wrap64 (next + cn - 1) = next + cn - 1 from IntWalk.wrap64_in _ (by have := HNX.out; have := HCN.out; constructor <;> omega))
      have HLT := Lib.hid (And.intro hlt hcn)
      have g3 : (j : Int) < (m : Int) := by omega
      clear hjl hp hp5 hm0 hm1 hlt hcn
      go_wp2_with fail
      clear F1 F2 F3 F5 y0
      try rw [F4]
      clear F4 g3
      go_loopw [69] (fun iv wr => KR2 w r ar ck tb sh j next cn iv wr) (fun i _ => 2 - (intOf i).toNat)
      case atStart => exact ⟨0, c4, rfl, .inl ⟨by decide, Lib.hid (by
        obtain ⟨la, d0, d1, ao, cap, ⟨hi, h⟩ | ⟨hi, h⟩⟩ := HG.out
        · exact ⟨la, d0, d1, ao, cap, .inl ⟨rfl, by simpa using h⟩⟩
        · cases hi)⟩⟩
      case round =>
        clear HG
        obtain ⟨i, c5, rfl, ⟨hi, HG⟩ | ⟨rfl, HG⟩⟩ := hrel
        · have HI2 := Lib.hid hi
          have g4 : (i : Int) < 2 := by omega
          have W4 := Lib.hid (show wrap64 ((i : Int) + 1) = ((i + 1 : Nat) : Int) by rw [IntWalk.wrap64_in _ ⟨by omega, by omega⟩]; omega)
          clear hi
          go_wp2_with fail
          refine (kclaim HG.out (Nat.le_refl 2) (by have := Hsh.out; omega) HCN.out.1 HCN.out.2.1 HNX.out.1 HNX.out.2).mono ?_
          rintro e w5 ⟨xv, dn, c6, rfl, kc⟩
          have KC5 := Lib.hid kc
          clear kc HG
          obtain ⟨tb_, htb⟩ : ∃ x, x = w5.heap.size := ⟨_, rfl⟩
          have HXB := Lib.hid (show w.heap.size ≤ tb_ by rw [htb]; exact KC5.out.st.size)
          obtain ⟨c7, hc7, T7⟩ := ((Stp.refl (fun _ => False) c6 w5).alloc (.cells #[.bool xv.b, .pointer xv.p1, .int .i64 xv.a, .slice xv.so xv.sn xv.sc, .int .i64 xv.m, .bool xv.s, .bool xv.d, .bool xv.f, .pointer xv.p2, .int .i64 xv.n, .int .i64 xv.st, .int .i64 xv.cl, .int .i64 xv.hi, .slice xv.o2 xv.n2 xv.c2, .int .i64 xv.mo] 66) 0).name
          have KC7 := Lib.hid (KC5.out.stpF T7.out)
          have B7 := Lib.hid (show Blk c7 0 (w5.alloc (.cells #[.bool xv.b, .pointer xv.p1, .int .i64 xv.a, .slice xv.so xv.sn xv.sc, .int .i64 xv.m, .bool xv.s, .bool xv.d, .bool xv.f, .pointer xv.p2, .int .i64 xv.n, .int .i64 xv.st, .int .i64 xv.cl, .int .i64 xv.hi, .slice xv.o2 xv.n2 xv.c2, .int .i64 xv.mo] 66)) tb_ [.bool xv.b, .pointer xv.p1, .int .i64 xv.a, .slice xv.so xv.sn xv.sc, .int .i64 xv.m, .bool xv.s, .bool xv.d, .bool xv.f, .pointer xv.p2, .int .i64 xv.n, .int .i64 xv.st, .int .i64 xv.cl, .int .i64 xv.hi, .slice xv.o2 xv.n2 xv.c2, .int .i64 xv.mo] 66 by rw [hc7.out, htb]; exact Blk.new c6 0 w5 _ _)
          clear hc7 T7 KC5
          go_wp2_with fail
          rw [← htb]
          clear htb
          go_loopw [17, 18] (fun gv iv wr => KS w r ar ck tb sh j i next cn tb_ gv iv wr) (fun _ iv _ => 5 - (intOf iv).toNat)
          case atStart => exact ⟨0, xv, dn, c7, rfl, rfl, Lib.hid (by decide), KC7, B7⟩
          case round =>
            clear KC7 B7
            obtain ⟨k9, xu, dn, c8, rfl, rfl, HK4, KC8, B8⟩ := hrel
            obtain ⟨y0, y1, y2, y3, y4, y5, y6, y7, y8, y9, y10, y11, y12, y13, y14⟩ := cells15 B8.out
            have g5 : (k9 : Int) < 20 := by have := HK4.out; omega
            go_wp2_with fail
            refine (kdone KC8.out).mono ?_
            rintro e w8 ⟨rfl, c9, t9, kc9⟩
            have KC9 := Lib.hid kc9
            have B9 := Lib.hid (B8.out.stp t9 id)
            clear t9 kc9 KC8 B8 y0 y1 y2 y3 y4 y5 y6 y7 y8 y9 y10 y11 y12 y13 y14
            rcases dn with _ | _
            · obtain ⟨y0, y1, y2, y3, y4, y5, y6, y7, y8, y9, y10, y11, y12, y13, y14⟩ := cells15 B9.out
              go_wp2_with fail
              refine (kstep KC9.out (Nat.le_refl 2) (by have := Hsh.out; omega) HCN.out.1 HCN.out.2.1 HNX.out.1 HNX.out.2 (by have := HLT.out.1; have := Hm.out; have := HI2.out; omega)).mono ?_
              rintro e w10 ⟨xt, dn, c10, rfl, t10, kc10⟩
              have KC10 := Lib.hid kc10
              have B10 := Lib.hid (B9.out.stp t10 (by decide))
              have NB := Lib.hid (KC10.out.1)
              clear t10 kc10 KC9 B9 y0 y1 y2 y3 y4 y5 y6 y7 y8 y9 y10 y11 y12 y13 y14
              obtain ⟨y0, y1, y2, y3, y4, y5, y6, y7, y8, y9, y10, y11, y12, y13, y14⟩ := cells15 B10.out
              obtain ⟨z0, z1, z2, z3, z4, z5, z6, z7, z8, z9, z10, z11, z12, z13, z14⟩ := frees15 B10.out
              have lb := B10.out.lt
              have T11 := Lib.hid (put15_stp (Stp.refl (· = 0) c10 w10) (.bool xt.b) (.pointer xt.p1) (.int .i64 xt.a) (.slice xt.so xt.sn xt.sc) (.int .i64 xt.m) (.bool xt.s) (.bool xt.d) (.bool xt.f) (.pointer xt.p2) (.int .i64 xt.n) (.int .i64 xt.st) (.int .i64 xt.cl) (.int .i64 xt.hi) (.slice xt.o2 xt.n2 xt.c2) (.int .i64 xt.mo) B10.out.1)
              have B11 := Lib.hid (put15_blk B10.out (.bool xt.b) (.pointer xt.p1) (.int .i64 xt.a) (.slice xt.so xt.sn xt.sc) (.int .i64 xt.m) (.bool xt.s) (.bool xt.d) (.bool xt.f) (.pointer xt.p2) (.int .i64 xt.n) (.int .i64 xt.st) (.int .i64 xt.cl) (.int .i64 xt.hi) (.slice xt.o2 xt.n2 xt.c2) (.int .i64 xt.mo))
              have N11 := Lib.hid (put15_new KC10.out.st (.bool xt.b) (.pointer xt.p1) (.int .i64 xt.a) (.slice xt.so xt.sn xt.sc) (.int .i64 xt.m) (.bool xt.s) (.bool xt.d) (.bool xt.f) (.pointer xt.p2) (.int .i64 xt.n) (.int .i64 xt.st) (.int .i64 xt.cl) (.int .i64 xt.hi) (.slice xt.o2 xt.n2 xt.c2) (.int .i64 xt.mo) HXB.out)
              have KC11 := Lib.hid (KC10.out.stp0 T11.out (by decide) N11.out)
              have W5 := Lib.hid (show wrap64 ((k9 : Int) + 1) = ((k9 + 1 : Nat) : Int) by rw [IntWalk.wrap64_in _ ⟨by omega, by omega⟩]; omega)
              have g6 := Lib.hid g5
              clear KC10 B10 T11 N11
              go_wp2
              go_roundw
              case rel => exact ⟨k9 + 1, xt, dn, c10, rfl, by first | rfl | rw [W5.out], NB, KC11, B11⟩
              case measure => first | exact k_meas _ NB.out | (simp only [W5.out]; exact k_meas _ NB.out)
            · obtain ⟨y0, y1, y2, y3, y4, y5, y6, y7, y8, y9, y10, y11, y12, y13, y14⟩ := cells15 B9.out
              go_wp2_with fail
              refine (kfull KC9.out).mono ?_
              rintro e w10 ⟨rfl, c10, t10, kc10⟩
              have KC10 := Lib.hid kc10
              have B10 := Lib.hid (B9.out.stp t10 id)
              clear t10 kc10 KC9 B9 y0 y1 y2 y3 y4 y5 y6 y7 y8 y9 y10 y11 y12 y13 y14
              obtain ⟨y0, y1, y2, y3, y4, y5, y6, y7, y8, y9, y10, y11, y12, y13, y14⟩ := cells15 B10.out
              go_wp2_with fail
              refine (klast KC10.out).mono ?_
              rintro e w11 ⟨rfl, c11, t11, kg11⟩
              have KG11 := Lib.hid kg11
              clear t11 kg11 KC10 B10 y0 y1 y2 y3 y4 y5 y6 y7 y8 y9 y10 y11 y12 y13 y14
              have V2 := W2.out
              have V3 := W3.out
              go_wp2_with fail
              try simp only [V2]
              try simp only [V3]
              go_loopw [19] (fun av wr => KA w r ar ck tb sh j i next cn av wr) (fun av _ => (next + cn - intOf av).toNat)
              case atStart => exact ⟨next, c11, rfl, Lib.hid (by have := HCN.out; omega), KG11⟩
              case round =>
                clear KG11
                obtain ⟨y, c12, rfl, HY, KG12⟩ := hrel
                by_cases hy : y < next + cn
                · have HYL := Lib.hid hy
                  go_wp2_with fail
                  refine (kshow KG12.out (by have := Hsh.out; omega) HCN.out.1 HCN.out.2.1 HNX.out.1 HNX.out.2 HY.out.1 HYL.out).mono ?_
                  rintro e w13 ⟨to_, c13, rfl, hto1, hto2, kg13⟩
                  have KG13 := Lib.hid kg13
                  have HTO := Lib.hid (And.intro hto1 hto2)
                  have h1 : decide (to_ ≤ y) = false := by simp; omega
                  have h2 : decide (next + cn < to_) = false := by simp; omega
                  clear kg13 hto1 hto2 KG12
                  go_wp2
                  go_roundw
                  case rel =>
                    have HN := Lib.hid (show next ≤ to_ ∧ to_ ≤ next + cn by have := HTO.out; have := HY.out; omega)
                    first | exact ⟨to_, c13, rfl, HN, KG13⟩ | ((repeat apply Exists.intro); exact ⟨⟨to_, c13, rfl, HN, KG13⟩, rfl⟩)
                  case measure => exact a_meas HTO.out.1 HYL.out
                · have hye : y = next + cn := by have := HY.out; omega
                  subst hye
                  clear hy
                  have g7 : ¬ (next + cn < next + cn) := Int.lt_irrefl _
                  go_wp2_with fail
                  refine (kpub KG12.out (by have := Hsh.out; omega) HCN.out.1 HCN.out.2.1 HNX.out.1 HNX.out.2).mono ?_
                  rintro e w13 ⟨rfl, c13, kg13⟩
                  have KG13 := Lib.hid kg13
                  clear kg13 KG12
                  go_wp2
                  go_roundw
                  case rel => exact k_next HI2.out KG13 (by first | rfl | rw [W4.out])
                  case measure => first | exact i_meas _ HI2.out | (simp only [W4.out]; exact i_meas _ HI2.out)
        · have g4 : ¬ ((2 : Nat) : Int) < 2 := by decide
          go_wp2
          go_roundw
          case rel => exact ⟨j + 1, next + cn, c5, by first | rfl | rw [W2.out], by first | rfl | rw [W1.out], Lib.hid HLT.out.1, Lib.hid (by have := Hnx.out; have := HCN.out; omega), HG⟩
          case measure => first | exact m_meas _ _ HLT.out.1 | (simp only [W1.out]; exact m_meas _ _ HLT.out.1)
    · have hjm : j = m := by have := Hj.out; omega
      subst hjm
      have g3 : ¬ (j : Int) < (j : Int) := Int.lt_irrefl _
      have HST := Lib.hid HG.out.end_
      have T1 := Lib.hid (Ht.out.stp HST.out (by decide))
      have HC := Lib.hid (show c4 1 = 0 from HST.out.col _ (World.block_lt_of_cell? w _ (Ht.out 0 (by decide))))
      clear hlt
      go_wp2_with fail
      refine (awake14k 2 (by decide) c4 _ T1.out HC.out).mono ?_
      rintro e w9 ⟨rfl, c9, s9⟩
      have S9 := Lib.hid (HST.out.trans s9)
      clear s9
      go_wp2
      go_ret
      exact ⟨rfl, S9.out.fin⟩

set_option maxRecDepth 100000 in
theorem rkinds_walk (s : Int) (so : Option Addr) (m scap : Nat) (sizes : List Int) (w : World) (hs8 : 0 ≤ s ∧ s ≤ 255)
    (hs : In (fun _ => 0) 0 w 1 so m scap (sizes.map (Value.int .u8))) (hr : ∀ t ∈ sizes, 0 ≤ t ∧ t ≤ 255) (ht : Tab w) :
    Calls Tryd.prog 5 #[.int .u8 s, .slice so m scap] w fun e w' => e = .returned (.bool true) ∧ Below w.heap.size w w' := by
  obtain ⟨s, rfl⟩ := Int.eq_ofNat_of_zero_le hs8.1
  by_cases h : m ≤ 60
  · exact rkinds_in s (s % 6) so m scap sizes w rfl h hs hr ht
  · have t1 : decide ((60 : Int) < (m : Int)) = true := by simp; omega
    have HT := Lib.hid (show Tab w ∧ (fun _ : Nat => 0) 1 = 0 from ⟨ht, rfl⟩)
    clear hs hr ht h hs8
    go_enter Tryd.func5, Tryd.ntmps5
    go_wp2_with fail
    refine (awake14k 2 (by decide) (fun _ => 0) _ HT.out.1 rfl).mono ?_
    rintro e w9 ⟨rfl, c9, s9⟩
    have S9 := Lib.hid s9
    clear s9
    go_wp2
    go_ret
    exact ⟨rfl, S9.out.fin⟩
end Go.Proofs.YtiphdedfbafhkaaDoor
