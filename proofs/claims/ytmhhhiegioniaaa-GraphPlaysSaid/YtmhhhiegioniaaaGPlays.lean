/- Of the law GraphPlays: the two graphs side by side. No condition beyond each law's own. -/
import Derived.Test.YtmhhhiegioniaaaRGraph9
import Derived.Test.YtmhhhiegioniaaaGraphDrops
namespace Go.Proofs.Ytmhhhiegioniaaa
open Go.RowKit Go.Deep

/-- The program's graph, the document's, and the variable that holds this one. -/
structure GP (w : World) (p mb : Nat) (S T : GS) (vs : List Value) (n : Nat) (ao : Option Addr) (cap : Nat) (bo : Option Addr) (bcap : Nat) (c : Nat → Nat) (wr : World) : Prop where
  lr : LRel w p S c wr
  rf : RefIs c 102 wr T.1 T.2 vs n ao cap bo bcap
  mb : Blk c 80 wr mb [.slice ao n cap, .slice bo n bcap] 134

section
variable {w : World} {p mb : Nat} {S T : GS} {vs : List Value} {n : Nat} {ao : Option Addr} {cap : Nat} {bo : Option Addr} {bcap : Nat} {c c' : Nat → Nat} {wr w' : World}

theorem GP.stp {J : Nat → Prop} (h : GP w p mb S T vs n ao cap bo bcap c wr) (s : Stp J c c' wr w') (hJ : ∀ j, J j → 81 ≤ j ∧ j < 100) : GP w p mb S T vs n ao cap bo bcap c' w' :=
  ⟨h.lr.stp s (fun k hk => by have := hJ k hk; omega), h.rf.stp s (fun j hj hh => by have := hJ j hj; have := hh.1; omega), h.mb.stp s (fun hh => by have := hJ _ hh; omega)⟩

theorem GP.stpF (h : GP w p mb S T vs n ao cap bo bcap c wr) (s : Stp (fun _ => False) c c' wr w') : GP w p mb S T vs n ao cap bo bcap c' w' := h.stp s fun _ h => h.elim

theorem GP.facts (h : GP w p mb S T vs n ao cap bo bcap c wr) : wr.cell? ⟨mb, 0, none⟩ = some (.slice ao n cap) ∧ wr.cell? ⟨mb, 1, none⟩ = some (.slice bo n bcap) ∧ wr.frozen? ⟨mb, 0, none⟩ = false ∧ wr.frozen? ⟨mb, 1, none⟩ = false ∧ mb < wr.heap.size :=
  ⟨by simpa using h.mb.cell 0, by simpa using h.mb.cell 1, h.mb.free 0, h.mb.free 1, h.mb.lt⟩

theorem GP.left (h : GP w p mb S T vs n ao cap bo bcap c wr) (s : Stp (GJ 2) c c' wr w') {S' : GS} (g : GrAt c' 2 w' p S') : GP w p mb S' T vs n ao cap bo bcap c' w' :=
  ⟨⟨h.lr.st.trans (s.mono fun _ h => h.1), g⟩, h.rf.stp s (fun j hj hh => by have := hj.2; have := hh.1; omega), h.mb.stp s (fun hh => by have := hh.2; omega)⟩

theorem GP.right (h : GP w p mb S T vs n ao cap bo bcap c wr) (s : Stp (GJ 102) c c' wr w') {T' : GS} {vs' : List Value} {n' : Nat} {ao' : Option Addr} {cap' : Nat} {bo' : Option Addr} {bcap' : Nat} (g : RefIs c' 102 w' T'.1 T'.2 vs' n' ao' cap' bo' bcap') :
    w'.cell? ⟨mb, 0, none⟩ = some (.slice ao n cap) ∧ w'.cell? ⟨mb, 1, none⟩ = some (.slice bo n bcap) ∧ w'.frozen? ⟨mb, 0, none⟩ = false ∧ w'.frozen? ⟨mb, 1, none⟩ = false ∧ mb < w'.heap.size ∧
    Stp (fun j => GJ 102 j ∨ j = 80) c c' wr ((w'.setCell ⟨mb, 0, none⟩ (.slice ao' n' cap')).setCell ⟨mb, 1, none⟩ (.slice bo' n' bcap')) ∧
    GP w p mb S T' vs' n' ao' cap' bo' bcap' c' ((w'.setCell ⟨mb, 0, none⟩ (.slice ao' n' cap')).setCell ⟨mb, 1, none⟩ (.slice bo' n' bcap')) := by
  have hm := h.mb.stp s (fun hh => by have := hh.1; omega)
  have hl := h.lr.stp s (fun k hk => by have := hk.1; omega)
  have s1 := ((Stp.refl (· = 80) c' w').setCell (p := ⟨mb, 0, none⟩) (.slice ao' n' cap') hm.1).setCell (p := ⟨mb, 1, none⟩) (.slice bo' n' bcap') hm.1
  refine ⟨by simpa using hm.cell 0, by simpa using hm.cell 1, hm.free 0, hm.free 1, hm.lt, (s.mono fun _ h => .inl h).trans (s1.mono fun _ h => .inr h), hl.stp s1 (fun k hk => by omega), g.stp s1 (fun j hj hh => by have := hh.1; omega), ?_⟩
  have := (hm.set 0 (.slice ao' n' cap')).set 1 (.slice bo' n' bcap')
  simpa using this

theorem GP.start (l : LRel w p ([], []) c wr) : GP w p wr.heap.size ([], []) ([], []) [] 0 none 0 none 0 (paint c wr.heap.size 80) (wr.alloc (.cells #[.slice none 0 0, .slice none 0 0] 134)) := by
  have s := (Stp.refl (fun _ => False) c wr).alloc (.cells #[.slice none 0 0, .slice none 0 0] 134) 80
  exact ⟨l.stpF s, ⟨Row.nil _ _ _ _ _, Row.nil _ _ _ _ _, fun i hi => absurd hi (Nat.not_lt_zero _), rfl, rfl, Nat.zero_le _⟩, Blk.new c 80 wr _ _⟩

theorem GP.len_q (h : GP w p mb S S vs n ao cap bo bcap c wr) (q : Nat) : Calls Try.prog 81 #[.pointer (some ⟨p, 0, none⟩)] (wr.drewN q) fun e w' => e = .returned (.int .i64 n) ∧ ∃ k, w' = wr.drewN k := by
  refine (grlen_all (h.lr.gr.stp ((Stp.refl (fun _ => False) _ _).drewN q) (fun _ h => h.elim))).mono ?_
  rintro e w' ⟨rfl, hw⟩
  exact ⟨by rw [h.rf.la], q, hw.symm⟩
end

/-- What the second loop holds: the graphs, the table, the depths, the ends so far. -/
structure GQ (w : World) (p mb db : Nat) (S : GS) (vs : List Value) (n : Nat) (ao : Option Addr) (cap : Nat) (bo : Option Addr) (bcap : Nat) (ta : Option Addr) (tcap : Nat) (B : Nat → Nat) (oo : Option Addr) (N oc : Nat) (l : List Nat) (c : Nat → Nat) (wr : World) : Prop where
  gp : GP w p mb S S vs n ao cap bo bcap c wr
  tab : TabIs c (fun _ => 83) wr ta n tcap n B (reachB S.1)
  dep : Blk c 84 wr db (numsN n (fun y => depI S (y : Nat))) 3
  ends : Row c 85 wr 3 1 oo N oc ((ints l).map (Value.int .i64))
  len : N = l.length

section
variable {w : World} {p mb db : Nat} {S : GS} {vs : List Value} {n : Nat} {ao : Option Addr} {cap : Nat} {bo : Option Addr} {bcap : Nat} {ta : Option Addr} {tcap : Nat} {B : Nat → Nat} {oo : Option Addr} {N oc : Nat} {l : List Nat} {c c' : Nat → Nat} {wr w' : World}
theorem GQ.stp {J : Nat → Prop} (h : GQ w p mb db S vs n ao cap bo bcap ta tcap B oo N oc l c wr) (s : Stp J c c' wr w') (hJ : ∀ j, J j → 86 ≤ j ∧ j < 100) : GQ w p mb db S vs n ao cap bo bcap ta tcap B oo N oc l c' w' :=
  ⟨h.gp.stp s (fun j hj => by have := hJ j hj; omega), h.tab.stp s (fun _ _ hh => by have := hJ _ hh; omega), h.dep.stp s (fun hh => by have := hJ _ hh; omega), h.ends.stp s (fun hh => by have := hJ _ hh; omega), h.len⟩
theorem GQ.stpF (h : GQ w p mb db S vs n ao cap bo bcap ta tcap B oo N oc l c wr) (s : Stp (fun _ => False) c c' wr w') : GQ w p mb db S vs n ao cap bo bcap ta tcap B oo N oc l c' w' := h.stp s fun _ h => h.elim
theorem GQ.push (h : GQ w p mb db S vs n ao cap bo bcap ta tcap B oo N oc l c wr) {j : Nat} {oo2 : Option Addr} {oc2 : Nat} (hr : Row c' 85 w' 3 1 oo2 (N + 1) oc2 ((ints l).map (Value.int .i64) ++ [.int .i64 (j : Int)])) (s : Stp (· = 85) c c' wr w') : GQ w p mb db S vs n ao cap bo bcap ta tcap B oo2 (N + 1) oc2 (l ++ [j]) c' w' :=
  ⟨h.gp.stp s (fun j hj => by omega), h.tab.stp s (fun _ _ hh => by omega), h.dep.stp s (by omega), by rw [ints_app, List.map_append]; exact hr, by rw [List.length_append, ← h.len]; rfl⟩
end

section
variable {w : World} {p mb : Nat} {S : GS} {vs : List Value} {n : Nat} {ao : Option Addr} {cap : Nat} {bo : Option Addr} {bcap : Nat} {c : Nat → Nat} {wr : World}
theorem GP.ahead_c (h : GP w p mb S S vs n ao cap bo bcap c wr) (gd : GoodS S) : Calls Try.prog 94 #[.agg #[.slice ao n cap, .slice bo n bcap]] wr fun e w' => ∃ ta tcap B, e = .returned (.slice ta n tcap) ∧ ∃ c', Hid (GP w p mb S S vs n ao cap bo bcap c' w') ∧ Hid (TabIs c' (fun _ => 83) w' ta n tcap n B (reachB S.1)) ∧ w'.cell? ⟨mb, 0, none⟩ = some (.slice ao n cap) ∧ w'.cell? ⟨mb, 1, none⟩ = some (.slice bo n bcap) := by
  refine (r13ahead_p h.rf gd 83).mono ?_
  rintro e w' ⟨ta, tcap, B, rfl, c', s, t⟩
  have g := h.stpF s
  exact ⟨ta, tcap, B, rfl, c', Lib.hid g, Lib.hid t, g.facts.1, g.facts.2.1⟩

theorem GP.depths_c (h : GP w p mb S S vs n ao cap bo bcap c wr) (gd : GoodS S) {ta : Option Addr} {tcap : Nat} {B : Nat → Nat} (t : TabIs c (fun _ => 83) wr ta n tcap n B (reachB S.1)) : Calls Try.prog 95 #[.agg #[.slice ao n cap, .slice bo n bcap]] wr fun e w' => ∃ db, e = .returned (.slice (some ⟨db, 0, none⟩) n n) ∧ ∃ c', Hid (GQ w p mb db S vs n ao cap bo bcap ta tcap B none 0 0 [] c' w') ∧ w'.cell? ⟨mb, 0, none⟩ = some (.slice ao n cap) ∧ w'.cell? ⟨mb, 1, none⟩ = some (.slice bo n bcap) := by
  refine (r13depths_p h.rf gd 84).mono ?_
  rintro e w' ⟨db, rfl, c', s, t2⟩
  have g := h.stpF s
  exact ⟨db, rfl, c', Lib.hid ⟨g, t.stp s (fun _ _ h => h), t2, Row.nil _ _ _ _ _, rfl⟩, g.facts.1, g.facts.2.1⟩
end

theorem afterI_eq {S : GS} (gd : GoodS S) (x : Nat) : afterI S (x : Nat) = S.1.getD x [] := by
  rw [afterI]
  split
  · rw [Int.toNat_natCast]
  · next h => rw [gd.own x (by simpa using h)]

theorem reachI_eq {S : GS} (gd : GoodS S) (x : Nat) : reachI S (x : Nat) = (List.range S.1.length).filter (reachB S.1 x) := by
  rw [reachI]
  split
  · rw [Int.toNat_natCast, reachL]
  · next h =>
    symm
    rw [List.filter_eq_nil_iff]
    intro y _ hy
    rw [reachB_iff] at hy
    obtain ⟨z, hz, _⟩ := hy.head
    rw [gd.own x (by simpa using h)] at hz
    cases hz

theorem behindI_eq {S : GS} (gd : GoodS S) (x : Nat) : behindI S (x : Nat) = behindL S.1 x := by
  rw [behindI]
  split
  · rw [Int.toNat_natCast]
  · next h =>
    symm
    rw [behindL, List.filter_eq_nil_iff]
    intro y _ hy
    exact h (gd.has y x (by simpa using hy))
/-- And what the second loop's round has made: whom a node reaches, whom it is directly behind. -/
structure GR (w : World) (p mb db : Nat) (S : GS) (vs : List Value) (n : Nat) (ao : Option Addr) (cap : Nat) (bo : Option Addr) (bcap : Nat) (ta : Option Addr) (tcap : Nat) (B : Nat → Nat) (oo : Option Addr) (N oc : Nat) (l : List Nat) (q : Nat) (ro : Option Addr) (RN rc : Nat) (o7 : Option Addr) (M oc7 : Nat) (c : Nat → Nat) (wr : World) : Prop where
  gq : GQ w p mb db S vs n ao cap bo bcap ta tcap B oo N oc l c wr
  rr : Row c 86 wr 3 1 ro RN rc ((ints ((List.range n).filter (reachB S.1 q))).map (Value.int .i64))
  ra : Row c 87 wr 3 1 o7 M oc7 ((ints (S.1.getD q [])).map (Value.int .i64))
  qn : q < n

section
variable {w : World} {p mb db : Nat} {S : GS} {vs : List Value} {n : Nat} {ao : Option Addr} {cap : Nat} {bo : Option Addr} {bcap : Nat} {ta : Option Addr} {tcap : Nat} {B : Nat → Nat} {oo : Option Addr} {N oc : Nat} {l : List Nat} {q : Nat} {ro : Option Addr} {RN rc : Nat} {o7 : Option Addr} {M oc7 : Nat} {c c' : Nat → Nat} {wr w' : World}
theorem GR.stpF (h : GR w p mb db S vs n ao cap bo bcap ta tcap B oo N oc l q ro RN rc o7 M oc7 c wr) (s : Stp (fun _ => False) c c' wr w') : GR w p mb db S vs n ao cap bo bcap ta tcap B oo N oc l q ro RN rc o7 M oc7 c' w' := ⟨h.gq.stpF s, h.rr.stp s id, h.ra.stp s id, h.qn⟩
theorem GR.drew (h : GR w p mb db S vs n ao cap bo bcap ta tcap B oo N oc l q ro RN rc o7 M oc7 c wr) : GR w p mb db S vs n ao cap bo bcap ta tcap B oo N oc l q ro RN rc o7 M oc7 c wr.drew := h.stpF (Stp.refl (fun _ => False) _ _).drew
theorem GR.cells (h : GR w p mb db S vs n ao cap bo bcap ta tcap B oo N oc l q ro RN rc o7 M oc7 c w') : w'.cell? ⟨mb, 0, none⟩ = some (.slice ao n cap) ∧ w'.cell? ⟨mb, 1, none⟩ = some (.slice bo n bcap) ∧ w'.cell? ⟨db, q, none⟩ = some (.int .i64 (depI S (q : Nat) : Nat)) :=
  ⟨h.gq.gp.facts.1, h.gq.gp.facts.2.1, by rw [h.gq.dep.cell q, numsN_get h.qn]⟩
theorem GR.has_c (h : GR w p mb db S vs n ao cap bo bcap ta tcap B oo N oc l q ro RN rc o7 M oc7 c wr) {b : Bool} (hb : hasB S.2 (q : Nat) = b) : Calls Try.prog 80 #[.pointer (some ⟨p, 0, none⟩), .int .i64 (q : Nat)] wr fun e w' => e = .returned (.bool b) ∧ Hid (GR w p mb db S vs n ao cap bo bcap ta tcap B oo N oc l q ro RN rc o7 M oc7 c w') ∧ w'.cell? ⟨mb, 0, none⟩ = some (.slice ao n cap) ∧ w'.cell? ⟨mb, 1, none⟩ = some (.slice bo n bcap) ∧ w'.cell? ⟨db, q, none⟩ = some (.int .i64 (depI S (q : Nat) : Nat)) := by
  refine (ghas_all h.gq.gp.lr.gr _ b hb).mono ?_
  rintro e w' ⟨rfl, rfl⟩
  exact ⟨rfl, Lib.hid h, h.cells⟩
theorem GR.rhas_c (h : GR w p mb db S vs n ao cap bo bcap ta tcap B oo N oc l q ro RN rc o7 M oc7 c wr) {b : Bool} (hb : hasB S.2 (q : Nat) = b) : Calls Try.prog 96 #[.agg #[.slice ao n cap, .slice bo n bcap], .int .i64 (q : Nat)] wr fun e w' => e = .returned (.bool b) ∧ ∃ c', Hid (GR w p mb db S vs n ao cap bo bcap ta tcap B oo N oc l q ro RN rc o7 M oc7 c' w') ∧ w'.cell? ⟨mb, 0, none⟩ = some (.slice ao n cap) ∧ w'.cell? ⟨mb, 1, none⟩ = some (.slice bo n bcap) ∧ w'.cell? ⟨db, q, none⟩ = some (.int .i64 (depI S (q : Nat) : Nat)) := by
  refine (r13has_any h.gq.gp.rf _ b hb).mono ?_
  rintro e w' ⟨rfl, c', s⟩
  exact ⟨rfl, c', Lib.hid (h.stpF s), (h.stpF s).cells⟩
theorem GR.depth_c (h : GR w p mb db S vs n ao cap bo bcap ta tcap B oo N oc l q ro RN rc o7 M oc7 c wr) (gd : GoodS S) : Calls Try.prog 86 #[.pointer (some ⟨p, 0, none⟩), .int .i64 (q : Nat)] wr fun e w' => e = .returned (.int .i64 (depI S (q : Nat) : Nat)) ∧ ∃ c', Hid (GR w p mb db S vs n ao cap bo bcap ta tcap B oo N oc l q ro RN rc o7 M oc7 c' w') ∧ w'.cell? ⟨mb, 0, none⟩ = some (.slice ao n cap) ∧ w'.cell? ⟨mb, 1, none⟩ = some (.slice bo n bcap) ∧ w'.cell? ⟨db, q, none⟩ = some (.int .i64 (depI S (q : Nat) : Nat)) := by
  refine (grdepth_all h.gq.gp.lr.gr gd _).mono ?_
  rintro e w' ⟨rfl, c', s⟩
  exact ⟨rfl, c', Lib.hid (h.stpF s), (h.stpF s).cells⟩
theorem GR.same_c (h : GR w p mb db S vs n ao cap bo bcap ta tcap B oo N oc l q ro RN rc o7 M oc7 c wr) {k1 k2 : Nat} {a1 a2 : Option Addr} {n1 n2 c1 c2 : Nat} {l1 l2 : List Int} (h1 : In c k1 wr 1 a1 n1 c1 (l1.map (Value.int .i64))) (h2 : In c k2 wr 1 a2 n2 c2 (l2.map (Value.int .i64))) (he : l1 = l2) : Calls Try.prog 97 #[.slice a1 n1 c1, .slice a2 n2 c2] wr fun e w' => e = .returned (.bool true) ∧ Hid (GR w p mb db S vs n ao cap bo bcap ta tcap B oo N oc l q ro RN rc o7 M oc7 c w') ∧ w'.cell? ⟨mb, 0, none⟩ = some (.slice ao n cap) ∧ w'.cell? ⟨mb, 1, none⟩ = some (.slice bo n bcap) ∧ w'.cell? ⟨db, q, none⟩ = some (.int .i64 (depI S (q : Nat) : Nat)) := by
  refine (same13 h1 h2 he).mono ?_
  rintro e w' ⟨rfl, s⟩
  exact ⟨rfl, Lib.hid (h.stpF s), (h.stpF s).cells⟩
theorem GR.reach_c (h : GR w p mb db S vs n ao cap bo bcap ta tcap B oo N oc l q ro RN rc o7 M oc7 c wr) (gd : GoodS S) : Calls Try.prog 83 #[.pointer (some ⟨p, 0, none⟩), .int .i64 (q : Nat)] wr fun e w' => ∃ a1 c1, e = .returned (.slice a1 (reachI S (q : Nat)).length c1) ∧ ∃ c', Hid (GR w p mb db S vs n ao cap bo bcap ta tcap B oo N oc l q ro RN rc o7 M oc7 c' w') ∧ Hid (In c' 88 w' 1 a1 (reachI S (q : Nat)).length c1 ((ints (reachI S (q : Nat))).map (Value.int .i64))) ∧ Hid (In c' 86 w' 1 ro RN rc ((ints ((List.range n).filter (reachB S.1 q))).map (Value.int .i64))) ∧ Hid (ints (reachI S (q : Nat)) = ints ((List.range n).filter (reachB S.1 q))) ∧ w'.cell? ⟨mb, 0, none⟩ = some (.slice ao n cap) ∧ w'.cell? ⟨mb, 1, none⟩ = some (.slice bo n bcap) ∧ w'.cell? ⟨db, q, none⟩ = some (.int .i64 (depI S (q : Nat) : Nat)) := by
  refine (grreach_all h.gq.gp.lr.gr gd _ 88).mono ?_
  rintro e w' ⟨a1, c1, rfl, c', s, r⟩
  exact ⟨a1, c1, rfl, c', Lib.hid (h.stpF s), Lib.hid r.toIn, Lib.hid (h.stpF s).rr.toIn, Lib.hid (by rw [reachI_eq gd, h.gq.gp.rf.la]), (h.stpF s).cells⟩
theorem GR.after_c (h : GR w p mb db S vs n ao cap bo bcap ta tcap B oo N oc l q ro RN rc o7 M oc7 c wr) (gd : GoodS S) : Calls Try.prog 85 #[.pointer (some ⟨p, 0, none⟩), .int .i64 (q : Nat)] wr fun e w' => ∃ a1 c1, e = .returned (.slice a1 (afterI S (q : Nat)).length c1) ∧ ∃ c', Hid (GR w p mb db S vs n ao cap bo bcap ta tcap B oo N oc l q ro RN rc o7 M oc7 c' w') ∧ Hid (In c' 88 w' 1 a1 (afterI S (q : Nat)).length c1 ((ints (afterI S (q : Nat))).map (Value.int .i64))) ∧ Hid (In c' 87 w' 1 o7 M oc7 ((ints (S.1.getD q [])).map (Value.int .i64))) ∧ Hid (ints (afterI S (q : Nat)) = ints (S.1.getD q [])) ∧ w'.cell? ⟨mb, 0, none⟩ = some (.slice ao n cap) ∧ w'.cell? ⟨mb, 1, none⟩ = some (.slice bo n bcap) ∧ w'.cell? ⟨db, q, none⟩ = some (.int .i64 (depI S (q : Nat) : Nat)) := by
  refine (grafter_all h.gq.gp.lr.gr gd _ 88).mono ?_
  rintro e w' ⟨a1, c1, rfl, c', s, r⟩
  exact ⟨a1, c1, rfl, c', Lib.hid (h.stpF s), Lib.hid r.toIn, Lib.hid (h.stpF s).ra.toIn, Lib.hid (by rw [afterI_eq gd]), (h.stpF s).cells⟩
theorem GR.behind_c (h : GR w p mb db S vs n ao cap bo bcap ta tcap B oo N oc l q ro RN rc o7 M oc7 c wr) : Calls Try.prog 98 #[.pointer (some ⟨p, 0, none⟩), .int .i64 (q : Nat)] wr fun e w' => ∃ a1 c1, e = .returned (.slice a1 (behindI S (q : Nat)).length c1) ∧ ∃ c', Hid (GR w p mb db S vs n ao cap bo bcap ta tcap B oo N oc l q ro RN rc o7 M oc7 c' w') ∧ Hid (In c' 88 w' 1 a1 (behindI S (q : Nat)).length c1 ((ints (behindI S (q : Nat))).map (Value.int .i64))) ∧ w'.cell? ⟨mb, 0, none⟩ = some (.slice ao n cap) ∧ w'.cell? ⟨mb, 1, none⟩ = some (.slice bo n bcap) ∧ w'.cell? ⟨db, q, none⟩ = some (.int .i64 (depI S (q : Nat) : Nat)) := by
  refine (grbehind_all h.gq.gp.lr.gr _ 88).mono ?_
  rintro e w' ⟨a1, c1, rfl, c', s, r⟩
  exact ⟨a1, c1, rfl, c', Lib.hid (h.stpF s), Lib.hid r.toIn, (h.stpF s).cells⟩
theorem GR.rbehind_c (h : GR w p mb db S vs n ao cap bo bcap ta tcap B oo N oc l q ro RN rc o7 M oc7 c wr) (gd : GoodS S) {a1 : Option Addr} {c1 : Nat} (h1 : In c 88 wr 1 a1 (behindI S (q : Nat)).length c1 ((ints (behindI S (q : Nat))).map (Value.int .i64))) : Calls Try.prog 99 #[.agg #[.slice ao n cap, .slice bo n bcap], .int .i64 (q : Nat)] wr fun e w' => ∃ a2 c2, e = .returned (.slice a2 (behindL S.1 q).length c2) ∧ ∃ c', Hid (GR w p mb db S vs n ao cap bo bcap ta tcap B oo N oc l q ro RN rc o7 M oc7 c' w') ∧ Hid (In c' 88 w' 1 a1 (behindI S (q : Nat)).length c1 ((ints (behindI S (q : Nat))).map (Value.int .i64))) ∧ Hid (In c' 89 w' 1 a2 (behindL S.1 q).length c2 ((ints (behindL S.1 q)).map (Value.int .i64))) ∧ Hid (ints (behindI S (q : Nat)) = ints (behindL S.1 q)) ∧ w'.cell? ⟨mb, 0, none⟩ = some (.slice ao n cap) ∧ w'.cell? ⟨mb, 1, none⟩ = some (.slice bo n bcap) ∧ w'.cell? ⟨db, q, none⟩ = some (.int .i64 (depI S (q : Nat) : Nat)) := by
  refine (r13behind_p h.gq.gp.rf q 89).mono ?_
  rintro e w' ⟨a2, c2, rfl, c', s, r⟩
  exact ⟨a2, c2, rfl, c', Lib.hid (h.stpF s), Lib.hid (h1.stp s id), Lib.hid r.toIn, Lib.hid (by rw [behindI_eq gd]), (h.stpF s).cells⟩
theorem GQ.drew (h : GQ w p mb db S vs n ao cap bo bcap ta tcap B oo N oc l c wr) : GQ w p mb db S vs n ao cap bo bcap ta tcap B oo N oc l c wr.drew := h.stpF (Stp.refl (fun _ => False) _ _).drew
theorem GQ.awake_c (h : GQ w p mb db S vs n ao cap bo bcap ta tcap B oo N oc l c wr) : Calls Try.prog 77 #[] wr fun e w' => e = .returned (.bool true) ∧ ∃ c', Hid (GQ w p mb db S vs n ao cap bo bcap ta tcap B oo N oc l c' w') ∧ w'.cell? ⟨mb, 0, none⟩ = some (.slice ao n cap) ∧ w'.cell? ⟨mb, 1, none⟩ = some (.slice bo n bcap) := by
  refine (awake13 c _).mono ?_
  rintro e w' ⟨rfl, c', s⟩
  exact ⟨rfl, c', Lib.hid (h.stpF s), (h.stpF s).gp.facts.1, (h.stpF s).gp.facts.2.1⟩
theorem GQ.same_c (h : GQ w p mb db S vs n ao cap bo bcap ta tcap B oo N oc l c wr) {k1 k2 : Nat} {a1 a2 : Option Addr} {n1 n2 c1 c2 : Nat} {l1 l2 : List Int} (h1 : In c k1 wr 1 a1 n1 c1 (l1.map (Value.int .i64))) (h2 : In c k2 wr 1 a2 n2 c2 (l2.map (Value.int .i64))) (he : l1 = l2) : Calls Try.prog 97 #[.slice a1 n1 c1, .slice a2 n2 c2] wr fun e w' => e = .returned (.bool true) ∧ Hid (GQ w p mb db S vs n ao cap bo bcap ta tcap B oo N oc l c w') ∧ w'.cell? ⟨mb, 0, none⟩ = some (.slice ao n cap) ∧ w'.cell? ⟨mb, 1, none⟩ = some (.slice bo n bcap) := by
  refine (same13 h1 h2 he).mono ?_
  rintro e w' ⟨rfl, s⟩
  exact ⟨rfl, Lib.hid (h.stpF s), (h.stpF s).gp.facts.1, (h.stpF s).gp.facts.2.1⟩
theorem GQ.ends_c (h : GQ w p mb db S vs n ao cap bo bcap ta tcap B oo N oc l c wr) : Calls Try.prog 100 #[.pointer (some ⟨p, 0, none⟩)] wr fun e w' => ∃ a1 c1, e = .returned (.slice a1 ((List.range S.1.length).filter (endB S.1 S.2)).length c1) ∧ ∃ c', Hid (GQ w p mb db S vs n ao cap bo bcap ta tcap B oo N oc l c' w') ∧ Hid (In c' 88 w' 1 a1 ((List.range S.1.length).filter (endB S.1 S.2)).length c1 ((ints ((List.range S.1.length).filter (endB S.1 S.2))).map (Value.int .i64))) ∧ w'.cell? ⟨mb, 0, none⟩ = some (.slice ao n cap) ∧ w'.cell? ⟨mb, 1, none⟩ = some (.slice bo n bcap) := by
  refine (grends_all h.gp.lr.gr 88).mono ?_
  rintro e w' ⟨a1, c1, rfl, c', s, r⟩
  exact ⟨a1, c1, rfl, c', Lib.hid (h.stpF s), Lib.hid r.toIn, (h.stpF s).gp.facts.1, (h.stpF s).gp.facts.2.1⟩
theorem GQ.order_c (h : GQ w p mb db S vs n ao cap bo bcap ta tcap B oo N oc l c wr) (gd : GoodS S) : Calls Try.prog 79 #[.pointer (some ⟨p, 0, none⟩)] wr fun e w' => ∃ a1 c1, e = .returned (.slice a1 (ordL S.1 S.2).length c1) ∧ ∃ c', Hid (GQ w p mb db S vs n ao cap bo bcap ta tcap B oo N oc l c' w') ∧ Hid (In c' 88 w' 1 a1 (ordL S.1 S.2).length c1 ((ints (ordL S.1 S.2)).map (Value.int .i64))) ∧ w'.cell? ⟨mb, 0, none⟩ = some (.slice ao n cap) ∧ w'.cell? ⟨mb, 1, none⟩ = some (.slice bo n bcap) := by
  refine (grorder_all h.gp.lr.gr gd 88).mono ?_
  rintro e w' ⟨a1, c1, rfl, c', s, r⟩
  exact ⟨a1, c1, rfl, c', Lib.hid (h.stpF s), Lib.hid r.toIn, (h.stpF s).gp.facts.1, (h.stpF s).gp.facts.2.1⟩
theorem GQ.rorder_c (h : GQ w p mb db S vs n ao cap bo bcap ta tcap B oo N oc l c wr) (gd : GoodS S) {k1 : Nat} {a1 : Option Addr} {n1 c1 : Nat} {l1 : List Int} (h1 : In c k1 wr 1 a1 n1 c1 (l1.map (Value.int .i64))) : Calls Try.prog 101 #[.agg #[.slice ao n cap, .slice bo n bcap]] wr fun e w' => ∃ a2 c2, e = .returned (.slice a2 (ordL S.1 S.2).length c2) ∧ ∃ c', Hid (GQ w p mb db S vs n ao cap bo bcap ta tcap B oo N oc l c' w') ∧ Hid (In c' k1 w' 1 a1 n1 c1 (l1.map (Value.int .i64))) ∧ Hid (In c' 89 w' 1 a2 (ordL S.1 S.2).length c2 ((ints (ordL S.1 S.2)).map (Value.int .i64))) ∧ w'.cell? ⟨mb, 0, none⟩ = some (.slice ao n cap) ∧ w'.cell? ⟨mb, 1, none⟩ = some (.slice bo n bcap) := by
  refine (r13order_p h.gp.rf gd 89).mono ?_
  rintro e w' ⟨a2, c2, rfl, c', s, r⟩
  exact ⟨a2, c2, rfl, c', Lib.hid (h.stpF s), Lib.hid (h1.stp s id), Lib.hid r.toIn, (h.stpF s).gp.facts.1, (h.stpF s).gp.facts.2.1⟩
end
end Go.Proofs.Ytmhhhiegioniaaa
