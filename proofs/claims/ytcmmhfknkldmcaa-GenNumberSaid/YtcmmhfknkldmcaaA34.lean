/-
  Bytes and strings, in the walks of these claims. No condition beyond those that each theorem states.
-/
import Derived.Test.YtcmmhfknkldmcaaE0
import Derived.Test.YtcmmhfknkldmcaaA23
import Derived.Test.YtcmmhfknkldmcaaA32
namespace Go.Proofs.Ytcmmhfknkldmcaa
open Go.RowKit

def bCells (l : List UInt8) : List Value := l.map fun b => .int .u8 (b.toNat : Int)
theorem bCells_app (a b : List UInt8) : bCells (a ++ b) = bCells a ++ bCells b := by unfold bCells; rw [List.map_append]
theorem bCells_len (l : List UInt8) : (bCells l).length = l.length := by simp [bCells]
/-- What a conversion of a string lays: its bytes, and room behind them. -/
def byteO (u : List UInt8) (e m : Nat) : Obj := .cells (bCells u).toArray e (m, m + 1)
theorem byteO_cells {w : World} {b e m : Nat} {u : List UInt8} (h : w.heap[b]? = some (byteO u e m)) (n : Nat) : CellsAt w b 0 (bCells (u.take n)) := fun j v hj => by
  rw [cell_of_row w b (0 + j) (bCells u).toArray e (m, m + 1) h, Nat.zero_add]
  unfold bCells at hj ⊢
  rw [List.map_take] at hj
  rw [List.getElem?_take] at hj
  split at hj
  · simpa using hj
  · cases hj
theorem St.rowAll {w0 ws w : World} {ro : Nat → Prop} {L : List (Nat × Obj)} {Rs : List Row} (h : St w0 ws w ro L Rs) (i : Nat) {g n cap e sz : Nat} {cs : List Value} (hr : Rs[i]? = some ⟨.slice (some ⟨g, 0, none⟩) n cap, e, sz, n, cs⟩) : CellsAt w g 0 cs := by
  intro j v hv
  have h2 := (h.rows _ (List.mem_of_getElem? hr)).cells (g := g) rfl j v hv
  simp only [addr_add] at h2
  exact h2
section
variable {P : Program} {n : Nat} {R : Exit → Act → World → Prop} {k : Kt} {σ : Env} {w : World} {ops : Array Oper} {rest : List Oper}
variable {d : Nat} {ty : TypeId} {pos : String} {af : Array Edge} {g : Option (Nat × Bool)}
variable {w0 ws : World} {ro : Nat → Prop} {L : List (Nat × Obj)} {Rs : List Row}
theorem WL.strRow {src dst e : TypeId} {x : Operand} {b m cap : Nat} {l : List UInt8} (hs : P.underlying src = some (.slice e)) (he : P.underlying e = some (.int .u8)) (hdst : P.underlying dst = some .string)
    (hg : want ops σ g = some true) (hd : Nat.blt d n = true) (hx : ev σ x = some (.slice (some ⟨b, 0, none⟩) m cap)) (hm : m = l.length) (hc : CellsAt w b 0 (bCells l))
    (h : WL P n R ops rest k ((d, .string ⟨l.toArray⟩) :: σ) w) : WL P n R ops (⟨some d, .convert src dst x, ty, pos, af, g⟩ :: rest) k σ w :=
  WL.valW (o := ⟨some d, .convert src dst x, ty, pos, af, g⟩) hg hd (fun c hk => by
    subst hm
    have h1 := run_convert_bytes_back (P := P) w src dst e ⟨b, 0, none⟩ cap l hs he hdst (fun j hj => by
      have h2 := hc j (.int .u8 (l[j].toNat : Int)) (by unfold bCells; rw [List.getElem?_map, List.getElem?_eq_getElem hj]; rfl)
      rw [addN]
      simpa using h2)
    simp [execOp, hk.eval hx, h1]) h
theorem WL.bytesOf {src dst e : TypeId} {x : Operand} {s : ByteArray} (hs : P.underlying src = some .string) (hdst : P.underlying dst = some (.slice e)) (he : P.underlying e = some (.int .u8))
    (hg : want ops σ g = some true) (hd : Nat.blt d n = true) (hx : ev σ x = some (.string s)) (hS : St w0 ws w ro L Rs)
    (h : ∀ w' b u cap, u.take s.size = s.data.toList → s.size ≤ u.length → St w0 ws w' ro ((b, byteO u e u.length) :: L) Rs → WL P n R ops rest k ((d, .slice (some ⟨b, 0, none⟩) s.size cap) :: σ) w') :
    WL P n R ops (⟨some d, .convert src dst x, ty, pos, af, g⟩ :: rest) k σ w := by
  have hr := run_bytes_of_string (P := P) w src dst e s hs hdst he
  refine WL.valW (o := ⟨some d, .convert src dst x, ty, pos, af, g⟩) (v := .slice (some ⟨w.heap.size, 0, none⟩) s.size (grownCap w s.size 0 e)) (w' := w.drew.alloc (.cells (bytesRow s (grownCap w s.size 0 e)) e ((bytesRow s (grownCap w s.size 0 e)).size, (bytesRow s (grownCap w s.size 0 e)).size + 1))) hg hd (fun c hk => by simp [execOp, hk.eval hx, hr]) (h _ _ (s.data.toList ++ List.replicate (grownCap w s.size 0 e - s.size) 0) _ ?_ ?_ ?_)
  · have : s.size = s.data.toList.length := by show s.data.size = _; simp
    rw [this, List.take_left]
  · show s.data.size ≤ _; simp
  · have e1 : Obj.cells (bytesRow s (grownCap w s.size 0 e)) e ((bytesRow s (grownCap w s.size 0 e)).size, (bytesRow s (grownCap w s.size 0 e)).size + 1) = byteO (s.data.toList ++ List.replicate (grownCap w s.size 0 e - s.size) 0) e (s.data.toList ++ List.replicate (grownCap w s.size 0 e - s.size) 0).length := by
      have e2 : bytesRow s (grownCap w s.size 0 e) = (bCells (s.data.toList ++ List.replicate (grownCap w s.size 0 e - s.size) 0)).toArray := by
        apply Array.toList_inj.1
        unfold bytesRow bCells
        simp
      unfold byteO
      rw [e2]
      simp only [List.size_toArray, bCells_len]
    rw [e1]
    have hb : Below w.heap.size w w.drew := ⟨rfl, rfl, rfl, Nat.le_refl _, fun _ _ => rfl⟩
    exact (hS.grow hb).alloc _
theorem WL.storeByte {t e m : TypeId} {x y : Operand} {b j : Nat} {u : List UInt8} {z : UInt8} (i : Nat) (hg : want ops σ g = some true) (hx : ev σ x = some (.pointer (some ⟨b, 0 + j * 1, none⟩))) (hy : ev σ y = some (.int .u8 (z.toNat : Int)))
    (hs : tySize P t 1 = true) (hL : L[i]? = some (b, byteO u e m)) (hlen : j < u.length) (hm : u.length ≤ m) (hS : St w0 ws w ro L Rs)
    (h : ∀ w', St w0 ws w' ro (L.set i (b, byteO (u.set j z) e m)) Rs → WL P n R ops rest k σ w') : WL P n R ops (⟨none, .store t x y, ty, pos, af, g⟩ :: rest) k σ w := by
  have hb := hS.own _ (List.mem_of_getElem? hL)
  have hcl : j < (bCells u).toArray.size := by simpa [bCells_len] using hlen
  have hcell : w.cell? ⟨b, j, none⟩ = some (bCells u).toArray[j] := by
    have := cell_of_row w b j (bCells u).toArray e (m, m + 1) hb
    rw [this, Array.getElem?_eq_getElem hcl]
  have hfro : w.frozen? ⟨b, j, none⟩ = false := by
    have hb2 : w.heap[b]? = some (.cells (bCells u).toArray e (m, m + 1)) := hb
    simp [World.frozen?, hb2]
    omega
  have hst : (Go.store ⟨b, j, none⟩ (.int .u8 (z.toNat : Int))).run P w = .ok () (w.setRow b ((bCells u).toArray.setIfInBounds j (.int .u8 (z.toNat : Int)))) := by
    rw [run_store P w _ _ _ rfl, hcell]
    simp [hfro, setCell_eq_setRow w b j (bCells u).toArray e (m, m + 1) _ hb]
  have hr : (storeVar t ⟨b, 0 + j * 1, none⟩ (.int .u8 (z.toNat : Int))).run P w = .ok () (w.setRow b (bCells (u.set j z)).toArray) := by
    unfold tySize at hs
    split at hs <;> try (cases hs; done)
    rename_i i0 hi
    have hsz := Nat.eq_of_beq_eq_true hs
    have hadd : (⟨b, j, none⟩ : Addr).add 0 = ⟨b, j, none⟩ := rfl
    have e3 : ((bCells u).toArray.setIfInBounds j (.int .u8 (z.toNat : Int))) = (bCells (u.set j z)).toArray := by
      apply Array.toList_inj.1
      unfold bCells
      simp [List.map_set]
    rw [e3] at hst
    rw [show 0 + j * 1 = j by omega]
    simp [storeVar, sizeOf, typeInfo, hi, hsz, Value.cells, storeCells, hadd, hst]
  have hr2 := hr
  rw [show 0 + j * 1 = j by omega] at hr2
  exact WL.unitW (o := ⟨none, .store t x y, ty, pos, af, g⟩) hg rfl (fun a ha => by simp [execOp, ha.eval hx, ha.eval hy, Instr.storeAt, Instr.sureAddr, hr2])
    (h _ (hS.upd hL (grownBy_setRow w b _) (setRow_heap w b (bCells u).toArray _ e (m, m + 1) hb)))
end
end Go.Proofs.Ytcmmhfknkldmcaa
