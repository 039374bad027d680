/-
  The laws' arguments as data that stay whole, printed by genlaw.py. No conditions.
-/
import Derived.Test.YtlknpohjnpnodaaGreatKc
import Derived.Test.YtlknpohjnpnodaaGreatMfAC1
namespace Go.Proofs.YtlknpohjnpnodaaGreat
open Go.RowKit
set_option linter.unusedVariables false
def c27_a (x : List Int) : List V := [aL ci64 x]
theorem ec27_a (x : List Int) : erL (c27_a x) = c27_d x := (erc (erG eci64 _) rfl)
theorem gkc27_a (x : List Int) : argdL (c27_a x) = true := (acc (aca (fun _ => rfl) _) rfl)
def c192_dd (x : Y40) : List V := [nI x.1, dL c27_d x.2]
abbrev Y193 := (List UInt8) × Y40
def c194_dd (x : Y193) : List V := [.str x.1, nI x.2.1, dL c27_d x.2.2]
theorem zc194_dd (x : Y193) : (c194_dd x).length = 3 := rfl
theorem ec194_dd (x : Y193) : erL (c194_dd x) = c194_dd x := (erc rfl (erc rfl (erc (erD ec27_d _) rfl)))
def c194_aa (x : Y193) : List V := [.str x.1, nI x.2.1, aL c27_a x.2.2]
theorem ec194_aa (x : Y193) : erL (c194_aa x) = c194_dd x := (erc rfl (erc rfl (erc (erG ec27_a _) rfl)))
def c130_ddd (x : List Y193) : List V := [dL c194_dd x]
theorem gkc194_aa (x : Y193) : argdL (c194_aa x) = true := (acc rfl (acc rfl (acc (aca gkc27_a _) rfl)))
def c132_ddd (x : List Y193) : List V := [dL c194_dd x]
theorem zc132_ddd (x : List Y193) : (c132_ddd x).length = 1 := rfl
theorem ec132_ddd (x : List Y193) : erL (c132_ddd x) = c132_ddd x := (erc (erD ec194_dd _) rfl)
def c132_aaa (x : List Y193) : List V := [aL c194_aa x]
theorem ec132_aaa (x : List Y193) : erL (c132_aaa x) = c132_ddd x := (erc (erG ec194_aa _) rfl)
def c52_dddd (x : List (List Y193)) : List V := [dL c132_ddd x]
abbrev Y53 := Int × (List (List Y193))
def c54_dddd (x : Y53) : List V := [nI x.1, dL c132_ddd x.2]
def c54_aaaa (x : Y53) : List V := [nI x.1, aL c132_aaa x.2]
def c167_d (x : Y108) : List V := [.str x.1, dL ci64 x.2]
theorem zc167_d (x : Y108) : (c167_d x).length = 2 := rfl
theorem ec167_d (x : Y108) : erL (c167_d x) = c167_d x := (erc rfl (erc (erD eci64 _) rfl))
def c167_a (x : Y108) : List V := [.str x.1, aL ci64 x.2]
theorem ec167_a (x : Y108) : erL (c167_a x) = c167_d x := (erc rfl (erc (erG eci64 _) rfl))
def c55_dd (x : List Y108) : List V := [dL c167_d x]
abbrev Y56 := Int × (List Y108) × (List Int)
def c57_ddd (x : Y56) : List V := [nI x.1, dL c167_d x.2.1, dL ci64 x.2.2]
abbrev Y58 := Int × (List Int) × (List Int) × Y56
def c59_ddddd (x : Y58) : List V := [nI x.1, dL ci64 x.2.1, dL ci64 x.2.2.1, nI x.2.2.2.1, dL c167_d x.2.2.2.2.1, dL ci64 x.2.2.2.2.2]
def c59_aaaaa (x : Y58) : List V := [nI x.1, aL ci64 x.2.1, aL ci64 x.2.2.1, nI x.2.2.2.1, aL c167_a x.2.2.2.2.1, aL ci64 x.2.2.2.2.2]
theorem up27 (x : List Int) : Ups (c27_d x) (c27_a x) := (upc (upd_ ci64_up _) upn)
theorem up194 (x : Y193) : Ups (c194_dd x) (c194_aa x) := (upc ⟨rfl, rfl⟩ (upc ⟨rfl, rfl⟩ (upc (upd_ up27 _) upn)))
theorem ad132 (x : List Y193) : argdL (c132_aaa x) = true := (adc (ada gkc194_aa _) rfl)
theorem up132 (x : List Y193) : Ups (c132_ddd x) (c132_aaa x) := (upc (upd_ up194 _) upn)
theorem up54 (x : Y53) : Ups (c54_dddd x) (c54_aaaa x) := (upc ⟨rfl, rfl⟩ (upc (upd_ up132 _) upn))
theorem ad167 (x : Y108) : argdL (c167_a x) = true := (adc rfl (adc (ada (fun _ => rfl) _) rfl))
theorem up167 (x : Y108) : Ups (c167_d x) (c167_a x) := (upc ⟨rfl, rfl⟩ (upc (upd_ ci64_up _) upn))
theorem up59 (x : Y58) : Ups (c59_ddddd x) (c59_aaaaa x) := (upc ⟨rfl, rfl⟩ (upc (upd_ ci64_up _) (upc (upd_ ci64_up _) (upc ⟨rfl, rfl⟩ (upc (upd_ up167 _) (upc (upd_ ci64_up _) upn))))))
end Go.Proofs.YtlknpohjnpnodaaGreat
