/-
  Strings put together, in the walks of these claims. No condition beyond those that each theorem states.
-/
import Derived.Test.YtdlcmhkfglckfaaA24
import Derived.Test.YtdlcmhkfglckfaaA27
import Derived.Laws.IdiomStrings
import Derived.Laws.Strings
namespace Go.Proofs.Ytdlcmhkfglckfaa
open Go.RowKit
section
variable {P : Program} {n : Nat} {R : Exit → Act → World → Prop} {k : Kt} {σ : Env} {w : World} {ops : Array Oper} {rest : List Oper}
variable {d : Nat} {ty : TypeId} {pos : String} {af : Array Edge} {g : Option (Nat × Bool)}
theorem WL.addStr {xT yT : TypeId} {x y : Operand} {a b : ByteArray} (hg : want ops σ g = some true) (hd : Nat.blt d n = true)
    (hx : ev σ x = some (.string a)) (hy : ev σ y = some (.string b)) (hs : a.size + b.size ≤ 9223372036854775807)
    (h : WL P n R ops rest k ((d, .string (a ++ b)) :: σ) w) : WL P n R ops (⟨some d, .binOp .add xT x y yT, ty, pos, af, g⟩ :: rest) k σ w :=
  WL.valW (o := ⟨some d, .binOp .add xT x y yT, ty, pos, af, g⟩) hg hd (fun c hc => by
    have h1 : ¬ (((a.size + b.size : Nat) : Int) > IntKind.i64.max) := by
      have : IntKind.i64.max = 9223372036854775807 := by decide
      rw [this]; omega
    simp [execOp, hc.eval hx, hc.eval hy, binOp, Op.stringOp, eqGuard]
    have : IntKind.i64.max = 9223372036854775807 := by decide
    omega) h
end
end Go.Proofs.Ytdlcmhkfglckfaa

namespace Go.Proofs.Ytdlcmhkfglckfaa
open Go.RowKit
section
variable {P : Program} {n : Nat} {R : Exit → Act → World → Prop} {k : Kt} {σ : Env} {w : World} {ops : Array Oper} {rest : List Oper}
variable {d : Nat} {ty : TypeId} {pos : String} {af : Array Edge} {g : Option (Nat × Bool)}
theorem WL.strByte {src dst e : TypeId} {x : Operand} {b cap : Nat} {z : UInt8} (hs : P.underlying src = some (.slice e)) (he : P.underlying e = some (.int .u8)) (hdst : P.underlying dst = some .string)
    (hg : want ops σ g = some true) (hd : Nat.blt d n = true) (hx : ev σ x = some (.slice (some ⟨b, 0, none⟩) 1 cap)) (hc : CellsAt w b 0 [.int .u8 (z.toNat : Int)])
    (h : WL P n R ops rest k ((d, .string ⟨#[z]⟩) :: σ) w) : WL P n R ops (⟨some d, .convert src dst x, ty, pos, af, g⟩ :: rest) k σ w :=
  WL.valW (o := ⟨some d, .convert src dst x, ty, pos, af, g⟩) hg hd (fun c hk => by
    have h1 := run_convert_bytes_back (P := P) w src dst e ⟨b, 0, none⟩ cap [z] hs he hdst (fun j hj => by
      have hj0 : j = 0 := by simp at hj; omega
      subst hj0
      have h2 := hc 0 (.int .u8 (z.toNat : Int)) rfl
      rw [addN]
      simpa using h2)
    simp only [List.length_cons, List.length_nil, Nat.zero_add] at h1
    simp [execOp, hk.eval hx, h1]) h
end
/-- A figure's byte. -/
def fig10 (n : Nat) : UInt8 := UInt8.ofNat (48 + n)
theorem fig10_int {z : Int} (n : Nat) (hz : z = (n : Int)) (h : n < 10) : IntKind.u8.wrap (48 + IntKind.u8.wrap z) = ((fig10 n).toNat : Int) := by
  subst hz
  have h1 : (fig10 n).toNat = 48 + n := by unfold fig10; rw [UInt8.toNat_ofNat']; omega
  rw [h1]
  unfold IntKind.wrap
  simp only [IntKind.signed, IntKind.bits]
  have e1 : ((n : Int) % 2 ^ 8) = (n : Int) := Int.emod_eq_of_lt (by omega) (by omega)
  simp [e1]
  omega
end Go.Proofs.Ytdlcmhkfglckfaa

namespace Go.Proofs.Ytdlcmhkfglckfaa
open Go.RowKit
section
variable {P : Program} {n : Nat} {R : Exit → Act → World → Prop} {k : Kt} {σ : Env} {w : World} {ops : Array Oper} {rest : List Oper}
variable {d : Nat} {ty : TypeId} {pos : String} {af : Array Edge} {g : Option (Nat × Bool)}
theorem WL.indexStr {xT : TypeId} {x y : Operand} {s : ByteArray} {kk : IntKind} {i v : Int} (hu : P.underlying xT = some .string) (hg : want ops σ g = some true) (hd : Nat.blt d n = true)
    (hx : ev σ x = some (.string s)) (hy : ev σ y = some (.int kk i)) (h0 : 0 ≤ i) (h1 : i < s.size) (hv : (((s[i.toNat]'(by omega)).toNat : Nat) : Int) = v)
    (h : WL P n R ops rest k ((d, .int .u8 v) :: σ) w) : WL P n R ops (⟨some d, .index xT x y, ty, pos, af, g⟩ :: rest) k σ w :=
  WL.valW (o := ⟨some d, .index xT x y, ty, pos, af, g⟩) hg hd (fun c hc => by
    have hr := run_index_string (P := P) w xT s kk i hu
    rw [dif_pos ⟨h0, h1⟩] at hr
    subst hv
    simp [execOp, hc.eval hx, hc.eval hy, hr]) h
end
end Go.Proofs.Ytdlcmhkfglckfaa
