/- The law on drawn regions, its obligations' last premise hidden from the first: no long term is hidden by hand. -/
import Derived.Test.YtogijlpclceanaaConf
namespace Go.Rv
open Go.RowKit
def Obl2 (P : Program) (ops : Array Oper) (Q : Exit → Act → World → Prop) (A : (Nat → Value) → Act) (w0 : World) (Φ : List Fact) (i : Nat) (o : Oper) : Prop :=
  ∀ (v : Nat → Value) (w : World) (K : Act → World → Prop), Below w0.heap.size w0 w → Deps Φ v w o.after.toList →
    Hid (∀ u w', Below w.heap.size w w' → (Φ.getD i Fact.any).p u w' → K ((A v).put o.dst u) w') → wpList P ops (Exit.then K Q) [o] (A v) w
def Obls2 (P : Program) (ops : Array Oper) (Q : Exit → Act → World → Prop) (A : (Nat → Value) → Act) (w0 : World) (Φ : List Fact) : Nat → List Oper → Prop
  | _, [] => True
  | i, o :: r => Obl2 P ops Q A w0 Φ i o ∧ Obls2 P ops Q A w0 Φ (i + 1) r
theorem obls_of2 {P : Program} {ops : Array Oper} {Q : Exit → Act → World → Prop} {A : (Nat → Value) → Act} {w0 : World} {Φ : List Fact} : ∀ {i : Nat} {l : List Oper}, Obls2 P ops Q A w0 Φ i l → Obls P ops Q A w0 Φ i l
  | _, [], _ => trivial
  | _, _ :: _, h => ⟨fun v w K hB hd hK => h.1 v w K hB hd (Lib.hid hK), obls_of2 h.2⟩
theorem wp_region_conf2 {P : Program} {ops : Array Oper} {Q : Exit → Act → World → Prop} {a0 : Act} {w0 : World} {id : Nat} (n : Nat) (Φ : List Fact) (A : (Nat → Value) → Act) (hm : P.follows .mixedOrders = true) (hok : confOk ops n = true)
    (hA : ∀ v, putAll v 0 (ops.toList.take n) a0 = A v) (ho : Obls2 P ops Q A w0 Φ 0 (ops.toList.take n))
    (hend : ∀ v w, Below w0.heap.size w0 w → (∀ j, j < n → (Φ.getD j Fact.any).p (v j) w) → wpList P ops Q (ops.toList.drop n) (A v) w) : (Code.region id ops true).wp P Q a0 w0 :=
  wp_region_conf n Φ A hm hok hA (obls_of2 ho) hend
end Go.Rv
