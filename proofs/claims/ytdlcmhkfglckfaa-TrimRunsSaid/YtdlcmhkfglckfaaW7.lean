/-
  Contracts of what is right (marlineref05). No condition beyond those that each theorem states.
-/
import Derived.Test.YtdlcmhkfglckfaaU10
namespace Go.Proofs.Ytdlcmhkfglckfaa
open Go.RowKit

def mainB : ByteArray := ⟨#[109, 97, 105, 110]⟩
def open7 (m : DMod) (s : ByteArray) : Bool :=
  if 0 ≤ find5 (fnames m) s then (match m.funcs[(find5 (fnames m) s).toNat]? with | some g => decide (g.blocks.length = 0) | none => false)
  else match m.globs[(find5 (gnames m) s).toNat]? with | some g => !g.here | none => false
def whole7 (m : DMod) : Int :=
  if check5 m ≠ 0 then check5 m
  else if find5 (fnames m) mainB < 0 then 11
  else match m.funcs[(find5 (fnames m) mainB).toNat]? with
  | some f => if f.blocks.length = 0 ∨ f.params ≠ 0 then 11 else if (m.funcs.flatMap refs5).any (open7 m) = true then 8 else 0
  | none => 11
theorem St.back {w0 ws0 ws u : World} {ro ro' : Nat → Prop} {L : List (Nat × Obj)} {Rs : List Row} (h : St w0 ws u ro' L Rs) (ha : Alike ro ws0 ro' ws) : St w0 ws0 u ro L Rs :=
  ⟨h.below, fun b hb => ⟨(h.snap b (ha b hb).1).1, (h.snap b (ha b hb).1).2.trans (ha b hb).2⟩, h.own, h.rows, fun x hx => ⟨(h.keys x hx).1, (h.keys x hx).2.1, fun hr => (h.keys x hx).2.2 (ha x hr).1⟩, h.nodup⟩
theorem flat_le {α : Type} {l : List DBlock} (h : ∀ b ∈ l, b.ins.length ≤ 32) : (l.flatMap (·.ins)).length ≤ 32 * l.length := by
  induction l with
  | nil => simp
  | cons b r ih =>
    have h1 := h b List.mem_cons_self
    have h2 := ih fun c hc => h c (List.mem_cons_of_mem _ hc)
    rw [List.flatMap_cons, List.length_append, List.length_cons]
    omega
theorem fins5_le {f : DFunc} (h : func5 f = true) : (fins5 f).length ≤ 1000000 := by
  obtain ⟨h1, h2⟩ := func5_all h
  have := flat_le (α := Nat) (l := f.blocks) fun b hb => (block5_all (h2 b hb)).2.2
  unfold fins5
  omega
theorem ref_there {m : DMod} (h : check5 m = 0) {f : DFunc} (hf : f ∈ m.funcs) {s : ByteArray} (hs : s ∈ refs5 f) : 0 ≤ find5 (fnames m) s ∨ 0 ≤ find5 (gnames m) s := by
  obtain ⟨_, _, _, _, _, hb, _⟩ := check5_all h
  obtain ⟨x, hx, rfl⟩ := List.mem_map.1 hs
  obtain ⟨hx1, hx2⟩ := List.mem_filter.1 hx
  have h1 := hb x (List.mem_flatMap.2 ⟨f, hf, hx1⟩)
  unfold bad5 at h1
  unfold named5 at hx2
  simp only [Bool.or_eq_false_iff, Bool.and_eq_false_iff, decide_eq_false_iff_not, Bool.or_eq_true, decide_eq_true_eq] at h1 hx2
  omega
theorem find5_ltg {m : DMod} {s : ByteArray} {z : Int} (h : z = find5 (gnames m) s) (h0 : 0 ≤ z) : z.toNat < m.globs.length := by
  rcases find5_cases (gnames m) s with ⟨h1, _⟩ | ⟨k, h1, _, h3, _⟩
  · omega
  · have : (gnames m).length = m.globs.length := by simp [gnames]
    omega

set_option maxRecDepth 100000 in
theorem whole7_ret (m : DMod) (cm : List Value) {w : World} {ro : Nat → Prop} (hro : ∀ b, ro b → b < w.heap.size) (hx : ModC ro w cm m) (hok : okMod m) : Ret Try.prog 27 #[.agg cm.toArray] w fun v w' => v = .int .i64 (whole7 m) ∧ Below w.heap.size w w' := by
 obtain ⟨sf, sg, rfl, hfs, hgs⟩ := id hx
 obtain ⟨adf, capf, rfl, hfsa, hfsb, hfsc, hfsd⟩ := id hfs
 have hfsm : m.funcs.length ≤ 9223372036854775807 := by have h1 := hfsa; have h2 := hfsb; unfold maxLen at h2; omega
 obtain ⟨adg, capg, rfl, hgsa, hgsb, hgsc, hgsd⟩ := id hgs
 have hgsm : m.globs.length ≤ 9223372036854775807 := by have h1 := hgsa; have h2 := hgsb; unfold maxLen at h2; omega
 refine Ret.enter (P := Try.prog) (n := 94) (args := [.agg #[.slice adf m.funcs.length capf, .slice adg m.globs.length capg]]) (σ := [(0, .agg #[.slice adf m.funcs.length capf, .slice adg m.globs.length capg])]) Try.func27 rfl rfl rfl rfl ?_
 have hS := St.start (ro := ro) hro
 refine W.seq (W.region ?_)
 refine WL.box (v := .agg #[.slice adf m.funcs.length capf, .slice adg m.globs.length capg]) (cs := [.slice adf m.funcs.length capf, .slice adg m.globs.length capg]) rfl rfl rfl rfl hS ?_
 clear hS; intro w2 b1 hb_b1 hS
 refine WL.assign rfl rfl rfl (WL.nil (N.seq (W.seq (W.region (WL.loadN (cs := [.slice adf m.funcs.length capf, .slice adg m.globs.length capg]) agg_46 rfl rfl rfl rfl (hS.cells 0 (m := 2) rfl rfl) ?_)))))
 refine WL.callF (vs := [.agg #[.slice adf m.funcs.length capf, .slice adg m.globs.length capg]]) Try.func26 (by kernel_rfl) rfl rfl rfl (check5_ret m _ (ro := ro) (fun b hb => (hS.snap b hb).1) (ModC.keep hx hS.alike) hok) ?_
 rintro v w3 ⟨rfl, hbl⟩
 replace hS := hS.grow hbl
 obtain ⟨zc, hzc⟩ : ∃ z, z = check5 m := ⟨_, rfl⟩
 rw [← hzc]
 refine WL.assign rfl rfl rfl (WL.nil (N.seq (W.seq (W.seq (W.region (WL.move rfl rfl rfl (WL.bin rfl rfl rfl rfl rfl (WL.nil (N.seq ?_)))))))))
 refine W.cond rfl (fun hc4 => ?_) (fun hc4 => ?_)
 ·
  have hc4p : ¬ (zc = 0) := by simpa using hc4
  refine W.seq (W.region (WL.move rfl rfl rfl (WL.assign rfl rfl rfl (WL.nil (N.seq ?_)))))
  refine Fin.ret1 rfl (v := .int .i64 zc) rfl ?_
  have hbz := hS.below
  clear hS
  refine ⟨?_, hbz⟩
  congr 1
  rw [whole7, ← hzc, if_pos (by omega)]
 have hc4p : zc = 0 := by simpa using hc4
 refine W.skip (N.seq (W.seq (W.region (WL.loadN (cs := [.slice adf m.funcs.length capf, .slice adg m.globs.length capg]) agg_46 rfl rfl rfl rfl (hS.cells 0 (m := 2) rfl rfl) ?_))))
 have hc0 : check5 m = 0 := by omega
 obtain ⟨hm1, hm2, hm3, hm4, hm5, hm6, hm7⟩ := check5_all hc0
 refine WL.callF (vs := [.agg #[.slice adf m.funcs.length capf, .slice adg m.globs.length capg], .string ⟨#[109, 97, 105, 110]⟩]) Try.func47 (by kernel_rfl) rfl rfl rfl (findfnames_ret m _ mainB (ro := ro) (fun b hb => (hS.snap b hb).1) (ModC.keep hx hS.alike)) ?_
 rintro v w5 ⟨rfl, hbl⟩
 replace hS := hS.grow hbl
 obtain ⟨zm, hzm⟩ : ∃ z, z = find5 (fnames m) mainB := ⟨_, rfl⟩
 rw [← hzm]
 refine WL.assign rfl rfl rfl (WL.nil (N.seq (W.seq (W.seq (W.region (WL.move rfl rfl rfl (WL.bin rfl rfl rfl rfl rfl (WL.move rfl rfl rfl ?_))))))))
 cases hg6 : (decide (zm < 0))
 ·
  have hg6p : ¬ (zm < 0) := by simpa using hg6
  refine WL.fieldAddr fo_46_0 rfl rfl rfl (WL.load1 (v := .slice adf m.funcs.length capf) one_43 rfl rfl rfl (hS.cell 0 rfl rfl) (WL.move rfl rfl rfl ?_))
  refine WL.set 22 (v' := .int .i64 (zm.toNat : Int)) rfl (by congr 1; omega) ?_
  have hj7 : zm.toNat < m.funcs.length := find5_lt hzm (by omega)
  obtain ⟨x7, hx7⟩ : ∃ zz, m.funcs[zm.toNat]? = some zz := ⟨_, List.getElem?_eq_getElem hj7⟩
  obtain ⟨b7, o7, cs7, hE7, hr7, hl7, hc7, hQ7⟩ := hfsd zm.toNat _ hx7
  obtain ⟨sb7, rfl, hbl7, hnm7, hbd7, hpr7⟩ := id hQ7
  obtain ⟨adb7, capb7, rfl, hbk7a, hbk7b, hbk7c, hbk7d⟩ := id hbl7
  have hbk7m : x7.blocks.length ≤ 9223372036854775807 := by have h1 := hbk7a; have h2 := hbk7b; unfold maxLen at h2; omega
  refine WL.indexAddrE (j := zm.toNat) Try.underlying43 isz_24 rfl rfl rfl rfl hj7 hE7 (WL.fieldAddr fo_24_3 rfl rfl rfl (WL.load1 (v := .slice adb7 x7.blocks.length capb7) one_22 rfl rfl rfl (hS.roCells hr7 hc7 3 _ rfl) (WL.lenSlice Try.underlying22 rfl rfl rfl (WL.bin rfl rfl rfl rfl rfl (WL.pick (v := .bool (decide ((x7.blocks.length : Int) = 0))) rfl rfl rfl rfl rfl rfl (WL.move rfl rfl rfl ?_))))))
  cases hg8 : (decide ((x7.blocks.length : Int) = 0))
  ·
   have hg8p : ¬ ((x7.blocks.length : Int) = 0) := by simpa using hg8
   refine WL.fieldAddr fo_46_0 rfl rfl rfl (WL.load1 (v := .slice adf m.funcs.length capf) one_43 rfl rfl rfl (hS.cell 0 rfl rfl) (WL.move rfl rfl rfl ?_))
   refine WL.set 32 (v' := .int .i64 (zm.toNat : Int)) rfl (by congr 1; omega) ?_
   refine WL.indexAddrE (j := zm.toNat) Try.underlying43 isz_24 rfl rfl rfl rfl hj7 hE7 (WL.fieldAddr fo_24_2 rfl rfl rfl (WL.load1 (v := .int .i64 x7.params) one_3 rfl rfl rfl (hS.roCells hr7 hc7 2 _ rfl) (WL.bin rfl rfl rfl rfl rfl (WL.pick (v := .bool (!decide (x7.params = 0))) rfl rfl rfl rfl rfl rfl (WL.nil (N.seq ?_))))))
   refine W.cond rfl (fun hc9 => ?_) (fun hc9 => ?_)
   ·
    have hc9p : ¬ (x7.params = 0) := by simpa using hc9
    refine W.seq (W.region (WL.assign rfl rfl rfl (WL.nil (N.seq ?_))))
    refine Fin.ret1 rfl (v := .int .i64 11) rfl ?_
    have hbz := hS.below
    clear hS
    refine ⟨?_, hbz⟩
    congr 1
    rw [whole7, if_neg (by omega), ← hzm, if_neg (by omega), hx7]; dsimp only; rw [if_pos (by omega)]
   have hc9p : x7.params = 0 := by simpa using hc9
   refine W.skip (N.seq (W.seq (W.seq (W.region (WL.assign rfl rfl rfl (WL.nil (N.seq (W.block ?_))))))))
   refine W.loop (α := Nat) (fun (i : Nat) => [(1, .pointer (some ⟨b1, 0, none⟩)), (5, .int .i64 (i : Int))]) (fun (i : Nat) u => St w w u ro [(b1, .cells #[.slice adf m.funcs.length capf, .slice adg m.globs.length capg] 46 (0, 0))] [] ∧ i ≤ m.funcs.length ∧ ((m.funcs.take i).flatMap refs5).any (open7 m) = false) (fun (i : Nat) => m.funcs.length - i) 0 ⟨rfl, rfl, trivial⟩ ⟨hS, Nat.zero_le _, rfl⟩ ?_
   clear hS
   rintro i w10 ⟨hS, hi, hg⟩
   refine W.seq (W.seq (W.region (WL.move rfl rfl rfl (WL.fieldAddr fo_46_0 rfl rfl rfl (WL.load1 (v := .slice adf m.funcs.length capf) one_43 rfl rfl rfl (hS.cell 0 rfl rfl) (WL.lenSlice Try.underlying43 rfl rfl rfl (WL.bin rfl rfl rfl rfl rfl (WL.nil (N.seq ?_)))))))))
   refine W.cond rfl (fun hc11 => ?_) (fun hc11 => ?_)
   ·
    have hc11p : (i : Int) < (m.funcs.length : Int) := by simpa using hc11
    refine W.skip (N.seq (W.seq (W.block (W.seq (W.region (WL.fieldAddr fo_46_0 rfl rfl rfl (WL.load1 (v := .slice adf m.funcs.length capf) one_43 rfl rfl rfl (hS.cell 0 rfl rfl) (WL.move rfl rfl rfl ?_))))))))
    have hj12 : i < m.funcs.length := by omega
    obtain ⟨x12, hx12⟩ : ∃ zz, m.funcs[i]? = some zz := ⟨_, List.getElem?_eq_getElem hj12⟩
    obtain ⟨b12, o12, cs12, hE12, hr12, hl12, hc12, hQ12⟩ := hfsd i _ hx12
    obtain ⟨sb12, rfl, hbl12, hnm12, hbd12, hpr12⟩ := id hQ12
    obtain ⟨adb12, capb12, rfl, hbk12a, hbk12b, hbk12c, hbk12d⟩ := id hbl12
    have hbk12m : x12.blocks.length ≤ 9223372036854775807 := by have h1 := hbk12a; have h2 := hbk12b; unfold maxLen at h2; omega
    refine WL.indexAddrE (j := i) Try.underlying43 isz_24 rfl rfl rfl rfl hj12 hE12 (WL.loadN (cs := [.string x12.name, .int .i64 x12.bind, .int .i64 x12.params, .slice adb12 x12.blocks.length capb12]) agg_24 rfl rfl rfl rfl (hS.roCells hr12 hc12) ?_)
    refine WL.callF (vs := [.agg #[.string x12.name, .int .i64 x12.bind, .int .i64 x12.params, .slice adb12 x12.blocks.length capb12]]) Try.func49 (by kernel_rfl) rfl rfl rfl (refs5_ret x12 _ (ro := ro) (fun b hb => (hS.snap b hb).1) (FuncC.keep hQ12 hS.alike) (fins5_le (hm3 _ (List.mem_of_getElem? hx12)))) ?_
    rintro v w13 ⟨hrs, hbl⟩
    have hal := hS.alikeTo hbl (ro' := roFrom ro w10 w13) (fun b hb => .inl hb)
    replace hS := hS.readNew hbl
    have hx2 := hx.keep hal
    have hfsE : Elems (roFrom ro w10 w13) w13 4 (FuncC (roFrom ro w10 w13) w13) adf m.funcs := hfsd.keep hal (fun _ _ h => h.keep hal)
    have hgsE : Elems (roFrom ro w10 w13) w13 4 GlobC adg m.globs := hgsd.keep hal (fun _ _ h => h)
    obtain ⟨rl, hrl⟩ : ∃ z, z = refs5 x12 := ⟨_, rfl⟩
    rw [← hrl] at hrs
    obtain ⟨adr, capr, rfl, hr1, hr2, hr3, hr4⟩ := hrs
    have hr5 : Elems (roFrom ro w10 w13) w13 1 StrC adr rl := hr4.keep (fun x hx => ⟨.inr hx, rfl⟩) (fun _ _ h => h)
    have hr6 : rl.length ≤ 9223372036854775807 := by have h1 := hr1; have h2 := hr2; unfold maxLen at h2; omega
    refine WL.assign rfl rfl rfl (WL.nil (N.seq (W.seq (W.region (WL.assign rfl rfl rfl (WL.nil (N.seq (W.block ?_))))))))
    refine W.loop (α := Nat) (fun (n : Nat) => [(1, .pointer (some ⟨b1, 0, none⟩)), (5, .int .i64 (i : Int)), (6, .slice adr rl.length capr), (7, .int .i64 (n : Int))]) (fun (n : Nat) u => St w w13 u (roFrom ro w10 w13) [(b1, .cells #[.slice adf m.funcs.length capf, .slice adg m.globs.length capg] 46 (0, 0))] [] ∧ n ≤ rl.length ∧ (rl.take n).any (open7 m) = false) (fun (n : Nat) => rl.length - n) 0 ⟨rfl, rfl, rfl, rfl, trivial⟩ ⟨hS, Nat.zero_le _, rfl⟩ ?_
    clear hS
    rintro n w14 ⟨hS, hn, hgn⟩
    refine W.seq (W.seq (W.region (WL.move rfl rfl rfl (WL.move rfl rfl rfl (WL.lenSlice Try.underlying78 rfl rfl rfl (WL.bin rfl rfl rfl rfl rfl (WL.nil (N.seq ?_))))))))
    refine W.cond rfl (fun hc15 => ?_) (fun hc15 => ?_)
    ·
     have hc15p : (n : Int) < (rl.length : Int) := by simpa using hc15
     have hj16 : n < rl.length := by omega
     obtain ⟨x16, hx16⟩ : ∃ zz, rl[n]? = some zz := ⟨_, List.getElem?_eq_getElem hj16⟩
     obtain ⟨b16, o16, cs16, hE16, hr16, hl16, hc16, hQ16⟩ := hr5 n _ hx16
     obtain ⟨rfl, hsz16⟩ := hQ16
     obtain ⟨zf, hzf⟩ : ∃ z, z = find5 (fnames m) x16 := ⟨_, rfl⟩
     obtain ⟨zg, hzg⟩ : ∃ z, z = find5 (gnames m) x16 := ⟨_, rfl⟩
     have hzz : 0 ≤ zf ∨ 0 ≤ zg := by rw [hzf, hzg]; exact ref_there hc0 (List.mem_of_getElem? hx12) (by rw [← hrl]; exact List.mem_of_getElem? hx16)
     refine W.skip (N.seq (W.seq (W.block (W.seq ?_))))
     refine W.drawL (by kernel_rfl) 6 ((.q (.agg #[.slice adf m.funcs.length capf, .slice adg m.globs.length capg])) :: (.q (.slice adr rl.length capr)) :: (.q (.int .i64 (n : Int))) :: (.q (.pointer (some ⟨b16, o16 + n * 1, none⟩))) :: (.q (.string x16)) :: (.q (.int .i64 zf)) :: []) (by kernel_rfl) (by kernel_rfl) [(1, .pointer (some ⟨b1, 0, none⟩)), (5, .int .i64 (i : Int)), (6, .slice adr rl.length capr), (7, .int .i64 (n : Int))] ⟨rfl, rfl, rfl, rfl, trivial⟩ (by kernel_rfl) hS ?_ ?_
     ·
      refine And.intro (fun β w hS => ?_) ?_
      ·
       refine WL.sub (σ' := [(1, .pointer (some ⟨b1, 0, none⟩))]) ⟨rfl, trivial⟩ ?_
       refine WL.loadN (cs := [.slice adf m.funcs.length capf, .slice adg m.globs.length capg]) agg_46 rfl rfl rfl rfl (hS.cells 0 (m := 2) rfl rfl) ?_
       exact WL.nil (N.cut () ⟨rfl, trivial⟩ (Below.refl _ _))
      refine And.intro (fun β w hS => ?_) ?_
      ·
       refine WL.sub (σ' := [(6, .slice adr rl.length capr)]) ⟨rfl, trivial⟩ ?_
       refine WL.move rfl rfl rfl ?_
       exact WL.nil (N.cut () ⟨rfl, trivial⟩ (Below.refl _ _))
      refine And.intro (fun β w hS => ?_) ?_
      ·
       refine WL.sub (σ' := [(7, .int .i64 (n : Int))]) ⟨rfl, trivial⟩ ?_
       refine WL.move rfl rfl rfl ?_
       exact WL.nil (N.cut () ⟨rfl, trivial⟩ (Below.refl _ _))
      refine And.intro (fun β w hS => ?_) ?_
      ·
       refine WL.sub (σ' := [(58, .slice adr rl.length capr), (59, .int .i64 (n : Int))]) ⟨rfl, rfl, trivial⟩ ?_
       refine WL.indexAddrE (j := n) Try.underlying78 isz_9 rfl rfl rfl rfl hj16 hE16 ?_
       exact WL.nil (N.cut () ⟨rfl, trivial⟩ (Below.refl _ _))
      refine And.intro (fun β w hS => ?_) ?_
      ·
       refine WL.sub (σ' := [(60, .pointer (some ⟨b16, o16 + n * 1, none⟩))]) ⟨rfl, trivial⟩ ?_
       refine WL.load1 (v := .string x16) one_9 rfl rfl rfl (hS.roCells hr16 hc16 0 _ rfl) ?_
       exact WL.nil (N.cut () ⟨rfl, trivial⟩ (Below.refl _ _))
      refine And.intro (fun β w hS => ?_) ?_
      ·
       refine WL.sub (σ' := [(57, .agg #[.slice adf m.funcs.length capf, .slice adg m.globs.length capg]), (61, .string x16)]) ⟨rfl, rfl, trivial⟩ ?_
       refine WL.callF (vs := [.agg #[.slice adf m.funcs.length capf, .slice adg m.globs.length capg], .string x16]) Try.func47 (by kernel_rfl) rfl rfl rfl (findfnames_ret m _ x16 (ro := (roFrom ro w10 w13)) (fun b hb => (hS.snap b hb).1) (ModC.keep hx2 hS.alike)) ?_
       rintro v w18 ⟨hv, hbl⟩
       replace hS := hS.grow hbl
       rw [← hzf] at hv; subst hv
       exact WL.nil (N.cut () ⟨rfl, trivial⟩ hbl)
      trivial
     clear hS; intro w19 β hS
     refine WL.sub (σ' := [(1, .pointer (some ⟨b1, 0, none⟩)), (5, .int .i64 (i : Int)), (6, .slice adr rl.length capr), (7, .int .i64 (n : Int)), (62, .int .i64 zf)]) ⟨rfl, rfl, rfl, rfl, rfl, trivial⟩ ?_
     refine WL.assign rfl rfl rfl (WL.nil (N.seq (W.seq ?_)))
     refine W.drawL (by kernel_rfl) 6 ((.q (.agg #[.slice adf m.funcs.length capf, .slice adg m.globs.length capg])) :: (.q (.slice adr rl.length capr)) :: (.q (.int .i64 (n : Int))) :: (.q (.pointer (some ⟨b16, o16 + n * 1, none⟩))) :: (.q (.string x16)) :: (.q (.int .i64 zg)) :: []) (by kernel_rfl) (by kernel_rfl) [(1, .pointer (some ⟨b1, 0, none⟩)), (5, .int .i64 (i : Int)), (6, .slice adr rl.length capr), (7, .int .i64 (n : Int)), (8, .int .i64 zf)] ⟨rfl, rfl, rfl, rfl, rfl, trivial⟩ (by kernel_rfl) hS ?_ ?_
     ·
      refine And.intro (fun β w hS => ?_) ?_
      ·
       refine WL.sub (σ' := [(1, .pointer (some ⟨b1, 0, none⟩))]) ⟨rfl, trivial⟩ ?_
       refine WL.loadN (cs := [.slice adf m.funcs.length capf, .slice adg m.globs.length capg]) agg_46 rfl rfl rfl rfl (hS.cells 0 (m := 2) rfl rfl) ?_
       exact WL.nil (N.cut () ⟨rfl, trivial⟩ (Below.refl _ _))
      refine And.intro (fun β w hS => ?_) ?_
      ·
       refine WL.sub (σ' := [(6, .slice adr rl.length capr)]) ⟨rfl, trivial⟩ ?_
       refine WL.move rfl rfl rfl ?_
       exact WL.nil (N.cut () ⟨rfl, trivial⟩ (Below.refl _ _))
      refine And.intro (fun β w hS => ?_) ?_
      ·
       refine WL.sub (σ' := [(7, .int .i64 (n : Int))]) ⟨rfl, trivial⟩ ?_
       refine WL.move rfl rfl rfl ?_
       exact WL.nil (N.cut () ⟨rfl, trivial⟩ (Below.refl _ _))
      refine And.intro (fun β w hS => ?_) ?_
      ·
       refine WL.sub (σ' := [(64, .slice adr rl.length capr), (65, .int .i64 (n : Int))]) ⟨rfl, rfl, trivial⟩ ?_
       refine WL.indexAddrE (j := n) Try.underlying78 isz_9 rfl rfl rfl rfl hj16 hE16 ?_
       exact WL.nil (N.cut () ⟨rfl, trivial⟩ (Below.refl _ _))
      refine And.intro (fun β w hS => ?_) ?_
      ·
       refine WL.sub (σ' := [(66, .pointer (some ⟨b16, o16 + n * 1, none⟩))]) ⟨rfl, trivial⟩ ?_
       refine WL.load1 (v := .string x16) one_9 rfl rfl rfl (hS.roCells hr16 hc16 0 _ rfl) ?_
       exact WL.nil (N.cut () ⟨rfl, trivial⟩ (Below.refl _ _))
      refine And.intro (fun β w hS => ?_) ?_
      ·
       refine WL.sub (σ' := [(63, .agg #[.slice adf m.funcs.length capf, .slice adg m.globs.length capg]), (67, .string x16)]) ⟨rfl, rfl, trivial⟩ ?_
       refine WL.callF (vs := [.agg #[.slice adf m.funcs.length capf, .slice adg m.globs.length capg], .string x16]) Try.func48 (by kernel_rfl) rfl rfl rfl (findgnames_ret m _ x16 (ro := (roFrom ro w10 w13)) (fun b hb => (hS.snap b hb).1) (ModC.keep hx2 hS.alike)) ?_
       rintro v w21 ⟨hv, hbl⟩
       replace hS := hS.grow hbl
       rw [← hzg] at hv; subst hv
       exact WL.nil (N.cut () ⟨rfl, trivial⟩ hbl)
      trivial
     clear hS; intro w22 β hS
     refine WL.sub (σ' := [(1, .pointer (some ⟨b1, 0, none⟩)), (5, .int .i64 (i : Int)), (6, .slice adr rl.length capr), (7, .int .i64 (n : Int)), (8, .int .i64 zf), (68, .int .i64 zg)]) ⟨rfl, rfl, rfl, rfl, rfl, rfl, trivial⟩ ?_
     refine WL.assign rfl rfl rfl (WL.nil (N.seq (W.seq (W.region (WL.move rfl rfl rfl (WL.bin rfl rfl rfl rfl rfl (WL.move rfl rfl rfl ?_)))))))
     cases hg23 : (decide (0 ≤ zf))
     ·
      have hg23p : ¬ (0 ≤ zf) := by simpa using hg23
      refine WL.skp rfl rfl (WL.skp rfl rfl (WL.skp rfl rfl (WL.skp rfl rfl (WL.skp rfl rfl (WL.skp rfl rfl (WL.skp rfl rfl (WL.skp rfl rfl (WL.pick (v := .bool false) rfl rfl rfl rfl rfl rfl (WL.move rfl rfl rfl ?_)))))))))
      refine WL.move rfl rfl rfl (WL.bin rfl rfl rfl rfl rfl (WL.move rfl rfl rfl ?_))
      cases hg24 : (decide (zf < 0))
      ·
       have hg24p : ¬ (zf < 0) := by simpa using hg24
       exfalso; omega
      have hg24p : zf < 0 := by simpa using hg24
      refine WL.fieldAddr fo_46_1 rfl rfl rfl (WL.load1 (v := .slice adg m.globs.length capg) one_44 rfl rfl rfl (hS.cell 0 rfl rfl) (WL.move rfl rfl rfl ?_))
      refine WL.set 87 (v' := .int .i64 (zg.toNat : Int)) rfl (by congr 1; omega) ?_
      have hj25 : zg.toNat < m.globs.length := find5_ltg hzg (by omega)
      obtain ⟨x25, hx25⟩ : ∃ zz, m.globs[zg.toNat]? = some zz := ⟨_, List.getElem?_eq_getElem hj25⟩
      obtain ⟨b25, o25, cs25, hE25, hr25, hl25, hc25, hQ25⟩ := hgsE zg.toNat _ hx25
      obtain ⟨rfl, hgn25, hgb25, hgi25⟩ := hQ25
      refine WL.indexAddrE (j := zg.toNat) Try.underlying44 isz_71 rfl rfl rfl rfl hj25 hE25 (WL.fieldAddr fo_71_2 rfl rfl rfl (WL.load1 (v := .bool x25.here) one_4 rfl rfl rfl (hS.roCells hr25 hc25 2 _ rfl) (WL.not rfl rfl rfl (WL.pick (v := .bool (!x25.here)) rfl rfl rfl rfl rfl rfl (WL.pick (v := .bool (!x25.here)) rfl rfl rfl rfl rfl rfl (WL.nil (N.seq ?_)))))))
      refine W.cond rfl (fun hc26 => ?_) (fun hc26 => ?_)
      ·
       refine W.seq (W.region (WL.assign rfl rfl rfl (WL.nil (N.seq ?_))))
       refine Fin.ret1 rfl (v := .int .i64 8) rfl ?_
       have hbz := hS.below
       clear hS
       refine ⟨?_, hbz⟩
       congr 1
       have hwh : whole7 m = (if (m.funcs.flatMap refs5).any (open7 m) = true then 8 else 0) := by rw [whole7, if_neg (by omega), ← hzm, if_neg (by omega), hx7]; dsimp only; rw [if_neg (by omega)]
       rw [hwh]
       have ho7 : open7 m x16 = true := by
                    unfold open7; rw [← hzf, ← hzg, if_neg (by omega), hx25]; simp_all
       rw [if_pos (List.any_eq_true.2 ⟨x16, List.mem_flatMap.2 ⟨x12, List.mem_of_getElem? hx12, by rw [← hrl]; exact List.mem_of_getElem? hx16⟩, ho7⟩)]
      refine W.skip (N.blk (N.seq (W.region (WL.move rfl rfl rfl ?_))))
      refine WL.add (c := (n : Int) + 1) rfl rfl rfl rfl (rfl) (by omega) ?_
      refine WL.assign rfl rfl rfl (WL.nil ?_)
      have ho7 : open7 m x16 = false := by
       unfold open7; rw [← hzf, ← hzg, if_neg (by omega), hx25]; simp_all
      have hg2 : (rl.take (n + 1)).any (open7 m) = false := by rw [take_next hx16, List.any_append, hgn]; simp [ho7]
      exact N.loop (n + 1) ⟨rfl, rfl, rfl, rfl, trivial⟩ ⟨hS, by omega, hg2⟩ (by first | omega | (simp only; omega))
     have hg23p : 0 ≤ zf := by simpa using hg23
     refine WL.fieldAddr fo_46_0 rfl rfl rfl (WL.load1 (v := .slice adf m.funcs.length capf) one_43 rfl rfl rfl (hS.cell 0 rfl rfl) (WL.move rfl rfl rfl ?_))
     refine WL.set 74 (v' := .int .i64 (zf.toNat : Int)) rfl (by congr 1; omega) ?_
     have hj27 : zf.toNat < m.funcs.length := find5_lt hzf (by omega)
     obtain ⟨x27, hx27⟩ : ∃ zz, m.funcs[zf.toNat]? = some zz := ⟨_, List.getElem?_eq_getElem hj27⟩
     obtain ⟨b27, o27, cs27, hE27, hr27, hl27, hc27, hQ27⟩ := hfsE zf.toNat _ hx27
     obtain ⟨sb27, rfl, hbl27, hnm27, hbd27, hpr27⟩ := id hQ27
     obtain ⟨adb27, capb27, rfl, hbk27a, hbk27b, hbk27c, hbk27d⟩ := id hbl27
     have hbk27m : x27.blocks.length ≤ 9223372036854775807 := by have h1 := hbk27a; have h2 := hbk27b; unfold maxLen at h2; omega
     refine WL.indexAddrE (j := zf.toNat) Try.underlying43 isz_24 rfl rfl rfl rfl hj27 hE27 (WL.fieldAddr fo_24_3 rfl rfl rfl (WL.load1 (v := .slice adb27 x27.blocks.length capb27) one_22 rfl rfl rfl (hS.roCells hr27 hc27 3 _ rfl) (WL.lenSlice Try.underlying22 rfl rfl rfl (WL.bin rfl rfl rfl rfl rfl (WL.pick (v := .bool (decide ((x27.blocks.length : Int) = 0))) rfl rfl rfl rfl rfl rfl (WL.move rfl rfl rfl ?_))))))
     cases hg28 : (decide ((x27.blocks.length : Int) = 0))
     ·
      have hg28p : ¬ ((x27.blocks.length : Int) = 0) := by simpa using hg28
      refine WL.move rfl rfl rfl (WL.bin rfl rfl rfl rfl rfl (WL.move rfl rfl rfl ?_))
      cases hg29 : (decide (zf < 0))
      ·
       have hg29p : ¬ (zf < 0) := by simpa using hg29
       refine WL.skp rfl rfl (WL.skp rfl rfl (WL.skp rfl rfl (WL.skp rfl rfl (WL.skp rfl rfl (WL.skp rfl rfl (WL.skp rfl rfl (WL.pick (v := .bool false) rfl rfl rfl rfl rfl rfl (WL.pick (v := .bool false) rfl rfl rfl rfl rfl rfl (WL.nil ?_)))))))))
       refine N.seq (W.condF rfl (W.skip (N.blk (N.seq (W.region (WL.move rfl rfl rfl ?_))))))
       refine WL.add (c := (n : Int) + 1) rfl rfl rfl rfl (rfl) (by omega) ?_
       refine WL.assign rfl rfl rfl (WL.nil ?_)
       have ho7 : open7 m x16 = false := by
        unfold open7; rw [← hzf, if_pos (by omega), hx27]; simp only [decide_eq_false_iff_not]; omega
       have hg2 : (rl.take (n + 1)).any (open7 m) = false := by rw [take_next hx16, List.any_append, hgn]; simp [ho7]
       exact N.loop (n + 1) ⟨rfl, rfl, rfl, rfl, trivial⟩ ⟨hS, by omega, hg2⟩ (by first | omega | (simp only; omega))
      have hg29p : zf < 0 := by simpa using hg29
      refine WL.fieldAddr fo_46_1 rfl rfl rfl (WL.load1 (v := .slice adg m.globs.length capg) one_44 rfl rfl rfl (hS.cell 0 rfl rfl) (WL.move rfl rfl rfl ?_))
      refine WL.set 87 (v' := .int .i64 (zg.toNat : Int)) rfl (by congr 1; omega) ?_
      have hj30 : zg.toNat < m.globs.length := find5_ltg hzg (by omega)
      obtain ⟨x30, hx30⟩ : ∃ zz, m.globs[zg.toNat]? = some zz := ⟨_, List.getElem?_eq_getElem hj30⟩
      obtain ⟨b30, o30, cs30, hE30, hr30, hl30, hc30, hQ30⟩ := hgsE zg.toNat _ hx30
      obtain ⟨rfl, hgn30, hgb30, hgi30⟩ := hQ30
      refine WL.indexAddrE (j := zg.toNat) Try.underlying44 isz_71 rfl rfl rfl rfl hj30 hE30 (WL.fieldAddr fo_71_2 rfl rfl rfl (WL.load1 (v := .bool x30.here) one_4 rfl rfl rfl (hS.roCells hr30 hc30 2 _ rfl) (WL.not rfl rfl rfl (WL.pick (v := .bool (!x30.here)) rfl rfl rfl rfl rfl rfl (WL.pick (v := .bool (!x30.here)) rfl rfl rfl rfl rfl rfl (WL.nil (N.seq ?_)))))))
      refine W.cond rfl (fun hc31 => ?_) (fun hc31 => ?_)
      ·
       refine W.seq (W.region (WL.assign rfl rfl rfl (WL.nil (N.seq ?_))))
       refine Fin.ret1 rfl (v := .int .i64 8) rfl ?_
       have hbz := hS.below
       clear hS
       refine ⟨?_, hbz⟩
       congr 1
       have hwh : whole7 m = (if (m.funcs.flatMap refs5).any (open7 m) = true then 8 else 0) := by rw [whole7, if_neg (by omega), ← hzm, if_neg (by omega), hx7]; dsimp only; rw [if_neg (by omega)]
       rw [hwh]
       have ho7 : open7 m x16 = true := by
                     unfold open7; rw [← hzf, ← hzg, if_neg (by omega), hx30]; simp_all
       rw [if_pos (List.any_eq_true.2 ⟨x16, List.mem_flatMap.2 ⟨x12, List.mem_of_getElem? hx12, by rw [← hrl]; exact List.mem_of_getElem? hx16⟩, ho7⟩)]
      refine W.skip (N.blk (N.seq (W.region (WL.move rfl rfl rfl ?_))))
      refine WL.add (c := (n : Int) + 1) rfl rfl rfl rfl (rfl) (by omega) ?_
      refine WL.assign rfl rfl rfl (WL.nil ?_)
      have ho7 : open7 m x16 = false := by
       unfold open7; rw [← hzf, ← hzg, if_neg (by omega), hx30]; simp_all
      have hg2 : (rl.take (n + 1)).any (open7 m) = false := by rw [take_next hx16, List.any_append, hgn]; simp [ho7]
      exact N.loop (n + 1) ⟨rfl, rfl, rfl, rfl, trivial⟩ ⟨hS, by omega, hg2⟩ (by first | omega | (simp only; omega))
     have hg28p : (x27.blocks.length : Int) = 0 := by simpa using hg28
     refine WL.skp rfl rfl (WL.skp rfl rfl (WL.skp rfl rfl (WL.skp rfl rfl (WL.skp rfl rfl (WL.skp rfl rfl (WL.skp rfl rfl (WL.skp rfl rfl (WL.skp rfl rfl (WL.skp rfl rfl ?_)))))))))
     refine WL.skp rfl rfl (WL.pick (v := .bool true) rfl rfl rfl rfl rfl rfl (WL.nil (N.seq (W.condT rfl (W.seq (W.region (WL.assign rfl rfl rfl (WL.nil (N.seq ?_)))))))))
     refine Fin.ret1 rfl (v := .int .i64 8) rfl ?_
     have hbz := hS.below
     clear hS
     refine ⟨?_, hbz⟩
     congr 1
     have hwh : whole7 m = (if (m.funcs.flatMap refs5).any (open7 m) = true then 8 else 0) := by rw [whole7, if_neg (by omega), ← hzm, if_neg (by omega), hx7]; dsimp only; rw [if_neg (by omega)]
     rw [hwh]
     have ho7 : open7 m x16 = true := by
                 unfold open7; rw [← hzf, if_pos (by omega), hx27]; simp only [decide_eq_true_eq]; omega
     rw [if_pos (List.any_eq_true.2 ⟨x16, List.mem_flatMap.2 ⟨x12, List.mem_of_getElem? hx12, by rw [← hrl]; exact List.mem_of_getElem? hx16⟩, ho7⟩)]
    have hc15p : ¬ ((n : Int) < (rl.length : Int)) := by simpa using hc15
    refine W.exit (X.seq (X.loop (X.blk (N.blk (N.seq (W.region (WL.move rfl rfl rfl ?_)))))))
    refine WL.add (c := (i : Int) + 1) rfl rfl rfl rfl (rfl) (by omega) ?_
    refine WL.assign rfl rfl rfl (WL.nil ?_)
    replace hS := hS.back hal
    have hg2 : ((m.funcs.take (i + 1)).flatMap refs5).any (open7 m) = false := by rw [take_next hx12, List.flatMap_append, List.any_append, hg]; rw [show n = rl.length by omega, List.take_length, hrl] at hgn; simpa using hgn
    exact N.loop (i + 1) ⟨rfl, rfl, trivial⟩ ⟨hS, by omega, hg2⟩ (by first | omega | (simp only; omega))
   have hc11p : ¬ ((i : Int) < (m.funcs.length : Int)) := by simpa using hc11
   refine W.exit (X.seq (X.loop (X.blk (N.seq (W.seq (W.region (WL.assign rfl rfl rfl (WL.nil (N.seq ?_)))))))))
   refine Fin.ret1 rfl (v := .int .i64 0) rfl ?_
   have hbz := hS.below
   clear hS
   refine ⟨?_, hbz⟩
   congr 1
   have hwh : whole7 m = (if (m.funcs.flatMap refs5).any (open7 m) = true then 8 else 0) := by rw [whole7, if_neg (by omega), ← hzm, if_neg (by omega), hx7]; dsimp only; rw [if_neg (by omega)]
   rw [hwh]
   rw [show i = m.funcs.length by omega, List.take_length] at hg
   rw [if_neg (by rw [hg]; simp)]
  have hg8p : (x7.blocks.length : Int) = 0 := by simpa using hg8
  refine WL.skp rfl rfl (WL.skp rfl rfl (WL.skp rfl rfl (WL.skp rfl rfl (WL.skp rfl rfl (WL.skp rfl rfl (WL.skp rfl rfl (WL.pick (v := .bool true) rfl rfl rfl rfl rfl rfl (WL.nil (N.seq ?_)))))))))
  refine W.condT rfl (W.seq (W.region (WL.assign rfl rfl rfl (WL.nil (N.seq ?_)))))
  refine Fin.ret1 rfl (v := .int .i64 11) rfl ?_
  have hbz := hS.below
  clear hS
  refine ⟨?_, hbz⟩
  congr 1
  rw [whole7, if_neg (by omega), ← hzm, if_neg (by omega), hx7]; dsimp only; rw [if_pos (by omega)]
 have hg6p : zm < 0 := by simpa using hg6
 refine WL.skp rfl rfl (WL.skp rfl rfl (WL.skp rfl rfl (WL.skp rfl rfl (WL.skp rfl rfl (WL.skp rfl rfl (WL.skp rfl rfl (WL.skp rfl rfl (WL.pick (v := .bool true) rfl rfl rfl rfl rfl rfl (WL.move rfl rfl rfl ?_)))))))))
 refine WL.skp rfl rfl (WL.skp rfl rfl (WL.skp rfl rfl (WL.skp rfl rfl (WL.skp rfl rfl (WL.skp rfl rfl (WL.skp rfl rfl (WL.pick (v := .bool true) rfl rfl rfl rfl rfl rfl (WL.nil (N.seq ?_)))))))))
 refine W.condT rfl (W.seq (W.region (WL.assign rfl rfl rfl (WL.nil (N.seq ?_)))))
 refine Fin.ret1 rfl (v := .int .i64 11) rfl ?_
 have hbz := hS.below
 clear hS
 refine ⟨?_, hbz⟩
 congr 1
 rw [whole7, if_neg (by omega), ← hzm, if_pos (by omega)]

end Go.Proofs.Ytdlcmhkfglckfaa
