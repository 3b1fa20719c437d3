/- The document's changes of a graph, whatever is handed in. No condition beyond each contract's own. -/
import Derived.Test.YtmhhhiegioniaaaRGraph6
import Derived.Test.YtmhhhiegioniaaaRGraph8
namespace Go.Proofs.Ytmhhhiegioniaaa
open Go.RowKit Go.Deep

theorem RefPost.to {c : Nat → Nat} {k : Nat} {w : World} {S S2 : GS} {er er2 : Int} {e : Ending} {w' : World} (h : RefPost c k w S er e w') (hS : S2 = S) (he : er2 = er) : RefPost c k w S2 er2 e w' := by
  subst hS he
  exact h

theorem r13add_all {c : Nat → Nat} {k : Nat} {w : World} {S : GS} {vs : List Value} {n : Nat} {ao : Option Addr} {cap : Nat} {bo : Option Addr} {bcap : Nat} (h : RefIs c k w S.1 S.2 vs n ao cap bo bcap) {ka : Nat} {po : Option Addr} {pn pcap : Nat} {l : List Int} (hi : In c ka w 1 po pn pcap (l.map (Value.int .i64))) (hka : ¬ GJ k ka) (hpn : pn ≤ 1000) :
    Calls Try.prog 89 #[.agg #[.slice ao n cap, .slice bo n bcap], .slice po pn pcap] w (RefPost c k w (addS S l) (addN S l)) := by
  by_cases hn : S.1.length < 64
  · exact r13add_any h hn hi hka hpn
  · have e8 : addN S l = 8 := by rw [addN, if_pos (by omega)]
    exact (r13add_many h (by omega) _).mono fun e w' he => he.to (by rw [addS, if_neg (by rw [e8]; decide)]) e8

theorem r13link_all {c : Nat → Nat} {k : Nat} {w : World} {S : GS} {vs : List Value} {n : Nat} {ao : Option Addr} {cap : Nat} {bo : Option Addr} {bcap : Nat} (h : RefIs c k w S.1 S.2 vs n ao cap bo bcap) (gd : GoodS S) (x y : Int) :
    Calls Try.prog 91 #[.agg #[.slice ao n cap, .slice bo n bcap], .int .i64 x, .int .i64 y] w (RefPost c k w (linkS S x y) (linkN S x y)) := by
  rcases linkN_cases S x y with ⟨h1, hx⟩ | ⟨h1, hx, hy⟩ | ⟨hx, hy, a, b, rfl, rfl, ⟨h1, h2⟩ | ⟨h1, h2, h3⟩ | ⟨h1, h2, h3, h4⟩ | ⟨h1, h2, h3, h4⟩⟩
  · exact (r13link_none1 h x y hx).mono fun e w' he => he.to (linkS_ne (by rw [h1]; decide)) h1
  · exact (r13link_none2 h x y hx hy).mono fun e w' he => he.to (linkS_ne (by rw [h1]; decide)) h1
  · subst h2
    exact (r13link_self h a hx).mono fun e w' he => he.to (linkS_ne (by rw [h1]; decide)) h1
  · exact (r13link_ring h gd a b hx hy h2 h3).mono fun e w' he => he.to (linkS_ne (by rw [h1]; decide)) h1
  · exact (r13link_there h gd a b hx hy h2 h3 h4).mono fun e w' he => he.to (linkS_ne (by rw [h1]; decide)) h1
  · exact (r13link_ok h gd a b hx hy h2 h3 h4).mono fun e w' he => he.to (by rw [linkS, if_pos h1, Int.toNat_natCast, Int.toNat_natCast]) h1

theorem r13drop_all {c : Nat → Nat} {k : Nat} {w : World} {S : GS} {vs : List Value} {n : Nat} {ao : Option Addr} {cap : Nat} {bo : Option Addr} {bcap : Nat} (h : RefIs c k w S.1 S.2 vs n ao cap bo bcap) (x : Int) :
    Calls Try.prog 93 #[.agg #[.slice ao n cap, .slice bo n bcap], .int .i64 x] w (RefPost c k w (dropS S x) (dropN S x)) := by
  rcases dropN_cases S x with ⟨h1, hx⟩ | ⟨hx, a, rfl, ⟨h1, h2⟩ | ⟨h1, h2⟩⟩
  · exact (r13drop_none h x hx).mono fun e w' he => he.to (dropS_ne (by rw [h1]; decide)) h1
  · exact (r13drop_busy h a hx h2).mono fun e w' he => he.to (dropS_ne (by rw [h1]; decide)) h1
  · exact (r13drop_ok h a hx h2).mono fun e w' he => he.to (by rw [dropS, if_pos h1, Int.toNat_natCast]) h1
end Go.Proofs.Ytmhhhiegioniaaa
