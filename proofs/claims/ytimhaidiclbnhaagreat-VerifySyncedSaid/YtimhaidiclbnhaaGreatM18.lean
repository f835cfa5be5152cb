/- Layer 46, shared texts of this seat, part 18. -/
import Derived.Shelf.Strings.Builder1
import Derived.Shelf.Strings.Builder2
import Derived.Shelf.Strings.BuilderF
import Derived.Shelf.Strings.BuilderK
import Derived.Shelf.Strings.Builder2Cap
import Derived.Shelf.Strings.Prefix
import Derived.Shelf.Bits.Mul64
import Derived.Shelf.Strings.Repeat
import Derived.Shelf.Slices.Turned
import Derived.Ground.Names2Prog
import Derived.Shelf.Slices.Clone
import Derived.Ground.SlgnProg
import Derived.Shelf.SlicesE.Clone
import Derived.Test.YtimhaidiclbnhaaGreatProg
import Derived.Test.YtimhaidiclbnhaaGreatM00
/-
  DERIVED: THE SHELF's CONTRACTS AT THIS DUMP, IN PLAIN WORDS (tools/lay-plain.mjs out of 'TryzShelf.lean', which tools/lay-shelf.mjs wrote): THE SAME DECLARATIONS UNDER THE SAME NAMES: 'import', 'namespace', 'open', 'def', 'theorem' AND NOTHING ELSE: no command of the shelf's: FOR A HAND-IN. Each laying: the table of numbers ('.._ren') and one theorem, a field a fact of the dump's own or the kernel's comparison; each contract: ONE APPLICATION.
-/
namespace Go.Proofs
open Go.Shelf
def Tryz.lays105_ren : Go.Shelf.Ren := ⟨fun | 105 => 141 | 212 => 145 | 99 => 146 | 165 => 147 | 166 => 148 | 170 => 149 | 169 => 150 | 263 => 153 | 264 => 154 | 206 => 155 | 240 => 156 | 241 => 157 | 276 => 160 | 277 => 161 | n => n, fun | 9 => 9 | 3 => 3 | 4 => 4 | 20 => 20 | 0 => 0 | 46 => 189 | 109 => 190 | 5 => 5 | 72 => 195 | 76 => 199 | 51 => 205 | 146 => 206 | 53 => 88 | 148 => 208 | 70 => 193 | 37 => 68 | 75 => 198 | 127 => 210 | 164 => 212 | 80 => 202 | n => n, fun | n => n⟩
theorem Tryz.lays105 : Go.Proofs.Lays.n105 Tryz.prog Tryz.lays105_ren := {
  mixed := by kernel_rfl
  f99 := Tryz.func146.trans (congrArg some (by kernel_rfl))
  f105 := Tryz.func141.trans (congrArg some (by kernel_rfl))
  f165 := Tryz.func147.trans (congrArg some (by kernel_rfl))
  f166 := Tryz.func148.trans (congrArg some (by kernel_rfl))
  f169 := Tryz.func150.trans (congrArg some (by kernel_rfl))
  f170 := Tryz.func149.trans (congrArg some (by kernel_rfl))
  f206 := Tryz.func155.trans (congrArg some (by kernel_rfl))
  f212 := Tryz.func145.trans (congrArg some (by kernel_rfl))
  f240 := Tryz.func156.trans (congrArg some (by kernel_rfl))
  f241 := Tryz.func157.trans (congrArg some (by kernel_rfl))
  f263 := Tryz.func153.trans (congrArg some (by kernel_rfl))
  f264 := Tryz.func154.trans (congrArg some (by kernel_rfl))
  f276 := Tryz.func160.trans (congrArg some (by kernel_rfl))
  f277 := Tryz.func161.trans (congrArg some (by kernel_rfl))
  t0 := Tryz.underlying0
  a0 := Tryz.isAgg0
  z0 := Tryz.sizeOf0
  v0 := Tryz.zeroValue0
  t3 := Tryz.underlying3
  a3 := Tryz.isAgg3
  z3 := Tryz.sizeOf3
  v3 := Tryz.zeroValue3
  t4 := Tryz.underlying4
  a4 := Tryz.isAgg4
  z4 := Tryz.sizeOf4
  v4 := Tryz.zeroValue4
  t5 := Tryz.underlying5
  a5 := Tryz.isAgg5
  z5 := Tryz.sizeOf5
  v5 := Tryz.zeroValue5
  t9 := Tryz.underlying9
  a9 := Tryz.isAgg9
  z9 := Tryz.sizeOf9
  v9 := Tryz.zeroValue9
  t20 := Tryz.underlying20
  a20 := Tryz.isAgg20
  z20 := Tryz.sizeOf20
  v20 := Tryz.zeroValue20
  t37 := Tryz.underlying68
  a37 := Tryz.isAgg68
  z37 := Tryz.sizeOf68
  v37 := Tryz.zeroValue68
  t46 := Tryz.underlying189
  a46 := Tryz.isAgg189
  z46 := Tryz.sizeOf189
  v46 := Tryz.zeroValue189
  t51 := Tryz.underlying205
  a51 := Tryz.isAgg205
  z51 := Tryz.sizeOf205
  v51 := Tryz.zeroValue205
  t53 := Tryz.underlying88
  a53 := Tryz.isAgg88
  z53 := Tryz.sizeOf88
  v53 := Tryz.zeroValue88
  t70 := Tryz.underlying193
  a70 := Tryz.isAgg193
  z70 := Tryz.sizeOf193
  v70 := Tryz.zeroValue193
  t72 := Tryz.underlying195
  a72 := Tryz.isAgg195
  z72 := Tryz.sizeOf195
  v72 := Tryz.zeroValue195
  t75 := Tryz.underlying198
  a75 := Tryz.isAgg198
  z75 := Tryz.sizeOf198
  v75 := Tryz.zeroValue198
  t76 := Tryz.underlying199
  a76 := Tryz.isAgg199
  z76 := Tryz.sizeOf199
  v76 := Tryz.zeroValue199
  t109 := Tryz.underlying190
  a109 := Tryz.isAgg190
  z109 := Tryz.sizeOf190
  v109 := Tryz.zeroValue190
  t127 := Tryz.underlying210
  a127 := Tryz.isAgg210
  z127 := Tryz.sizeOf210
  v127 := Tryz.zeroValue210
  t146 := Tryz.underlying206
  a146 := Tryz.isAgg206
  z146 := Tryz.sizeOf206
  v146 := Tryz.zeroValue206
  t148 := Tryz.underlying208
  a148 := Tryz.isAgg208
  z148 := Tryz.sizeOf208
  v148 := Tryz.zeroValue208
  t164 := Tryz.underlying212
  a164 := Tryz.isAgg212
  z164 := Tryz.sizeOf212
  v164 := Tryz.zeroValue212 }
theorem Tryz.Builder_Extra_105 : Builder.Extra Tryz.prog Tryz.lays105_ren := {
  sizeBuilder := by kernel_rfl
  liesBuilder := by kernel_rfl
  t5 := Tryz.underlying5
  a5 := Tryz.isAgg5
  z5 := Tryz.sizeOf5
  v5 := Tryz.zeroValue5
  infoByte := by kernel_rfl
  cellsByte := by kernel_rfl
  sizeByte := by kernel_rfl
  neB5 := by decide }
open Go.RowKit Go.Lib in
/-- **strings.Repeat: count ≥ 0, the result within one allocation: count copies of s.** (LAID: no walk: one application.) -/
theorem Tryz.strings_Repeat (s : ByteArray) (c : Nat) (w : World) (hc : c ≤ 9223372036854775807) (hlen : s.size * c ≤ 140737488355328) :
    Calls Tryz.prog 141 #[.string s, .int .i64 c] w fun e w' => e = .returned (.string ⟨(Lib.repeatL s.data.toList c).toArray⟩) ∧ Below w.heap.size w w' := Any.strings_Repeat Tryz.lays105 Tryz.Builder_Extra_105 s c w hc hlen
def Tryz.lays107_ren : Go.Shelf.Ren := ⟨fun | 107 => 115 | 108 => 120 | n => n, fun | 28 => 22 | 3 => 3 | 4 => 4 | 0 => 0 | n => n, fun | n => n⟩
theorem Tryz.lays107 : Go.Proofs.Lays.n107 Tryz.prog Tryz.lays107_ren := {
  mixed := by kernel_rfl
  f107 := Tryz.func115.trans (congrArg some (by kernel_rfl))
  f108 := Tryz.func120.trans (congrArg some (by kernel_rfl))
  t0 := Tryz.underlying0
  a0 := Tryz.isAgg0
  z0 := Tryz.sizeOf0
  v0 := Tryz.zeroValue0
  t3 := Tryz.underlying3
  a3 := Tryz.isAgg3
  z3 := Tryz.sizeOf3
  v3 := Tryz.zeroValue3
  t4 := Tryz.underlying4
  a4 := Tryz.isAgg4
  z4 := Tryz.sizeOf4
  v4 := Tryz.zeroValue4
  t28 := Tryz.underlying22
  a28 := Tryz.isAgg22
  z28 := Tryz.sizeOf22
  v28 := Tryz.zeroValue22 }
open Go.Lib in
/-- slices.Contains at []int: "Contains reports whether v is present in s.": IT RETURNS 'elements.contains v'; the world is as it was. ITS CALLEE slices.Index IS MET BY ITS OWN CONTRACT OFF THE SHELF (lay that first): no loop is walked here. (LAID: no walk: one application.) -/
theorem Tryz.slices_Contains_int (b off n c : Nat) (zs : List Int) (x : Int) (w : World) (hz : n ≤ zs.length) (hbig : n ≤ 9223372036854775807) (hc : ∀ j, j < zs.length → w.cell? ⟨b, off + j, none⟩ = some (.int .i64 (zs.getD j 0))) :
    Calls Tryz.prog 115 #[.slice (some ⟨b, off, none⟩) n c, .int .i64 x] w fun e w' => e = .returned (.bool ((zs.take n).contains x)) ∧ w' = w := Any.slices_Contains_int Tryz.lays107 b off n c zs x w hz hbig hc
def Tryz.laysNm216_ren : Go.Shelf.Ren := ⟨fun | 16 => 64 | n => n, fun | 24 => 47 | 9 => 9 | 4 => 4 | n => n, fun | n => n⟩
theorem Tryz.laysNm216 : Go.Proofs.Lays2.n16 Tryz.prog Tryz.laysNm216_ren := {
  mixed := by kernel_rfl
  f16 := Tryz.func64.trans (congrArg some (by kernel_rfl))
  t4 := Tryz.underlying4
  a4 := Tryz.isAgg4
  z4 := Tryz.sizeOf4
  v4 := Tryz.zeroValue4
  t9 := Tryz.underlying9
  a9 := Tryz.isAgg9
  z9 := Tryz.sizeOf9
  v9 := Tryz.zeroValue9
  t24 := Tryz.underlying47
  a24 := Tryz.isAgg47
  z24 := Tryz.sizeOf47
  v24 := Tryz.zeroValue47
  i9 := by kernel_rfl }
open Go.RowKit Go.Lib in
/-- slices.Clone at []string: "Clone returns a copy of the slice. The elements are copied using assignment, so this is a shallow clone. The result may have additional unused capacity. The result preserves the nilness of s.": OF A SLICE THAT IS NOT nil IT RETURNS A SLICE THAT IS NOT nil, OF THE SAME ELEMENTS, IN MEMORY OF THE CALL's OWN: in the how-to's words (6f): 'w'.ownsRow B e 1 v' n cells': v' begins at the head of a row among the blocks from B on (B: the heap's size at the call), not frozen, whose first cells are the elements · 'Below B w w'': below B all is as it was. The capacity is whatever the run-time gives. 'zs': what the cells behind the slice's address hold; 'zs.take n': its elements. (LAID: no walk: one application.) -/
theorem Tryz.slices_Clone_string (b off n c : Nat) (zs : List ByteArray) (w : World) (hz : n ≤ zs.length) (hbig : n * 16 ≤ 140737488355328) (hc : ∀ j, j < zs.length → w.cell? ⟨b, off + j, none⟩ = some (.string (zs.getD j ByteArray.empty))) :
    Calls Tryz.prog 64 #[.slice (some ⟨b, off, none⟩) n c] w fun e w' => ∃ v', e = .returned v' ∧ w'.ownsRow w.heap.size 9 1 v' n ((zs.take n).map (Value.string)) ∧ v' ≠ .slice none 0 0 ∧ Below w.heap.size w w' := Any.slices_Clone_string Tryz.laysNm216 b off n c zs w hz hbig hc
open Go.RowKit Go.Lib in
/-- The same at nil: nil comes back; the world is as it was. (LAID: no walk: one application.) -/
theorem Tryz.slices_Clone_string_nil (n c : Nat) (w : World) :
    Calls Tryz.prog 64 #[.slice none n c] w fun e w' => e = .returned (.slice none 0 0) ∧ w' = w := Any.slices_Clone_string_nil Tryz.laysNm216 n c w
def Tryz.laysSlE041_f64_ren : Go.Shelf.Ren := ⟨fun | 41 => 64 | n => n, fun | 22 => 47 | 23 => 9 | 4 => 4 | n => n, fun | n => n⟩
theorem Tryz.laysSlE041_f64 : Go.Proofs.SlLaysE0.n41 Tryz.prog Tryz.laysSlE041_f64_ren := {
  mixed := by kernel_rfl
  f41 := ⟨Tryz.f64.name, by decide, Tryz.func64.trans (congrArg some (by kernel_rfl))⟩
  t4 := Tryz.underlying4
  a4 := Tryz.isAgg4
  z4 := Tryz.sizeOf4
  v4 := Tryz.zeroValue4
  t22 := Tryz.underlying47
  a22 := Tryz.isAgg47
  z22 := Tryz.sizeOf47
  v22 := Tryz.zeroValue47 }
open Go.RowKit Go.Lib in
/-- slices.Clone: "Clone returns a copy of the slice. The elements are copied using assignment, so this is a shallow clone. The result may have additional unused capacity. The result preserves the nilness of s.": OF A SLICE THAT IS NOT nil IT RETURNS A SLICE THAT IS NOT nil, OF THE SAME CELLS, IN MEMORY OF THE CALL's OWN ('ownsRow': the how-to's 6f); below the heap's size at the call all is as it was. (LAID AT THE INSTANCE 'slices.Clone[[]string,string]': no walk: one application.) -/
theorem Tryz.slices_Clone (i0 : TypeInfo) (z : Value) (size bytes : Nat) (hi : Tryz.prog.info? 9 = some i0) (hz0 : i0.zero = some z) (hz1 : i0.size = size) (hz2 : i0.bytes = bytes) (hzs : z.cells.size = size) (hsz : 0 < size) (z23 : ∀ w, (Go.sizeOf 9).run Tryz.prog w = .ok size w) (b off n c : Nat) (news : List Value) (w : World) (hl : news.length = n * size) (hn : n ≤ maxLen) (hbig : n * bytes ≤ 140737488355328) (hc : ∀ j u, news[j]? = some u → w.cell? ⟨b, off + j, none⟩ = some u) (h1 : ∀ u ∈ news, u.oneCell' = true) :
    Calls Tryz.prog 64 #[.slice (some ⟨b, off, none⟩) n c] w fun e w' => ∃ v', e = .returned v' ∧ w'.ownsRow w.heap.size 9 size v' n news ∧ v' ≠ .slice none 0 0 ∧ Below w.heap.size w w' := AnyE.slices_Clone Tryz.laysSlE041_f64 i0 z size bytes hi hz0 hz1 hz2 hzs hsz z23 b off n c news w hl hn hbig hc h1
open Go.RowKit Go.Lib in
/-- The same at nil: nil comes back; the world is as it was; nothing is asked of the element's type. (LAID AT THE INSTANCE 'slices.Clone[[]string,string]': no walk: one application.) -/
theorem Tryz.slices_Clone_nil (n c : Nat) (w : World) :
    Calls Tryz.prog 64 #[.slice none n c] w fun e w' => e = .returned (.slice none 0 0) ∧ w' = w := AnyE.slices_Clone_nil Tryz.laysSlE041_f64 n c w
end Go.Proofs
/- Histories: rows of strings; adding a state. -/
set_option linter.unusedSimpArgs false
set_option linter.unusedVariables false
set_option maxRecDepth 100000
namespace Go.Proofs.YtimhaidiclbnhaaGreat.Con
open Go.ChangeShapes Go.WideShapes Go.ChangeAt Go.RowKit

/-- a is the head of a row of strings l, in a block from B on -/
def StrRow (B : Nat) (a : Option Addr) (cap : Nat) (l : List ByteArray) (w : World) : Prop :=
  (a = none ∧ l = [] ∧ cap = 0) ∨ ∃ g, a = some ⟨g, 0, none⟩ ∧ B ≤ g ∧ g < w.heap.size ∧ l.length ≤ cap ∧ cap ≤ maxLen ∧ ∀ j, j < l.length → w.cell? ⟨g, j, none⟩ = some (.string (l.getD j ByteArray.empty))
theorem StrRow.mono {B C cap : Nat} {a : Option Addr} {l : List ByteArray} {w : World} (h : StrRow B a cap l w) (hc : C ≤ B) : StrRow C a cap l w := by
  rcases h with h | ⟨g, h1, h2, h3, h4⟩
  · exact Or.inl h
  · exact Or.inr ⟨g, h1, Nat.le_trans hc h2, h3, h4⟩
theorem StrRow.below {B cap : Nat} {a : Option Addr} {l : List ByteArray} {w w' : World} (h : StrRow B a cap l w) (hb : Below w.heap.size w w') : StrRow B a cap l w' := by
  rcases h with h | ⟨g, h1, h2, h3, h4, h5, h6⟩
  · exact Or.inl h
  · exact Or.inr ⟨g, h1, h2, Nat.lt_of_lt_of_le h3 hb.size, h4, h5, fun j hj => by rw [hb.cell (p := ⟨g, j, none⟩) h3]; exact h6 j hj⟩
theorem StrRow.tock {B t cap : Nat} {a : Option Addr} {l : List ByteArray} {w w' : World} (h : StrRow B a cap l w) (ht : t < B) (hk : Tock t w w') : StrRow B a cap l w' := by
  rcases h with h | ⟨g, h1, h2, h3, h4, h5, h6⟩
  · exact Or.inl h
  · exact Or.inr ⟨g, h1, h2, Nat.lt_of_lt_of_le h3 hk.size, h4, h5, fun j hj => by rw [hk.cell (by omega) h3]; exact h6 j hj⟩
theorem StrRow.ofOwn {B n : Nat} {v : Value} {l : List ByteArray} {w : World} (h : w.ownsRow B 9 1 v n (l.map Value.string)) : ∃ a cap, v = .slice a l.length cap ∧ n = l.length ∧ StrRow B a cap l w := by
  have hl : n = l.length := by have := h.1; simp at this; omega
  subst hl
  rcases h.2 with ⟨hv, hn⟩ | ⟨g, cap, cur, hv, _, _, hc1, hc2, _⟩
  · refine ⟨none, 0, ?_, rfl, Or.inl ⟨rfl, List.length_eq_zero_iff.1 hn, rfl⟩⟩
    rw [hv, hn]
  · refine ⟨some ⟨g, 0, none⟩, cap, hv, rfl, Or.inr ⟨g, rfl, ?_, ?_, hc1, hc2, ?_⟩⟩
    · exact (h.lt g (by rw [hv]; rfl)).1
    · exact (h.lt g (by rw [hv]; rfl)).2
    · intro j hj
      have := h.cells (g := g) (by rw [hv]; rfl) j (.string (l.getD j ByteArray.empty)) (by simp [List.getD, hj])
      rw [Addr.add_lit] at this
      simpa using this
/-- slices.Clone at a row of strings -/
theorem clone_any (B : Nat) (a : Option Addr) (l : List ByteArray) (cap : Nat) (w : World) (h : StrRow B a cap l w) (hl : l.length ≤ 100000) :
    Calls Tryz.prog 64 #[.slice a l.length cap] w fun e w' => ∃ v', e = .returned v' ∧ w'.ownsRow w.heap.size 9 1 v' l.length (l.map Value.string) ∧ Below w.heap.size w w' := by
  rcases h with ⟨rfl, rfl, rfl⟩ | ⟨g, rfl, h2, h3, h4, h5, h6⟩
  · refine (Tryz.slices_Clone_string_nil _ _ _).mono ?_
    rintro e w' ⟨rfl, rfl⟩
    exact ⟨_, rfl, ⟨by simp, Or.inl ⟨rfl, rfl⟩⟩, Below.refl _ _⟩
  · refine (Tryz.slices_Clone_string g 0 l.length cap l w (Nat.le_refl _) (by omega) (fun j hj => by rw [Nat.zero_add]; exact h6 j hj)).mono ?_
    rintro e w' ⟨v', rfl, ho, _, hb⟩
    rw [List.take_length] at ho
    exact ⟨v', rfl, ho, hb⟩
theorem str_info : (Tryz.prog.info? 9).map (fun i => (i.zero, i.size, i.bytes)) = some (some (.string ⟨#[]⟩), 1, 16) := by kernel_rfl
/-- append of a row of strings onto a row of the call's own, at one operation -/
theorem wp_app {o : Oper} {a : Act} {w : World} {K : Act → World → Prop} {Q : Exit → Act → World → Prop} (s x : Operand)
    (ho : o.op = .call { callee := .builtin .append, args := #[s, x], argTypes := #[47, 47] })
    (base : Nat) (v : Value) (l : List ByteArray) (hs : a.eval s = v) (hown : w.ownsRow base 9 1 v l.length (l.map Value.string))
    (B : Nat) (ad : Option Addr) (m : List ByteArray) (cap : Nat) (hx : a.eval x = .slice ad m.length cap) (hr : StrRow B ad cap m w)
    (hl : l.length ≤ 100000) (hm : m.length ≤ 100000) (hbase : base ≤ w.heap.size)
    (h : ∀ a' cap' w', w'.ownsRow base 9 1 (.slice a' (l ++ m).length cap') (l ++ m).length ((l ++ m).map Value.string) → StrRow base a' cap' (l ++ m) w' → Below base w w' → K (a.put o.dst (.slice a' (l ++ m).length cap')) w') : o.wp Tryz.prog a w K Q := by
  obtain ⟨i0, hi, hz0, hz1, hz2⟩ := info_parts str_info
  have key : ∃ v' w', (Builtin.append_ #[47, 47] o.type #[v, .slice ad m.length cap]).run Tryz.prog w = .ok v' w' ∧ w'.ownsRow base 9 1 v' (l ++ m).length ((l ++ m).map Value.string) ∧ Below base w w' := by
    rcases hr with ⟨rfl, rfl, rfl⟩ | ⟨g, rfl, h2, h3, h4, h5, h6⟩
    · refine ⟨v, w, run_append_owned_none (P := Tryz.prog) (w := w) base 47 o.type 9 i0 1 Tryz.underlying47 hi v _ _ hown, ?_, Below.refl _ _⟩
      rw [List.append_nil]; exact hown
    · obtain ⟨v', w', hrun, e2, e3, _⟩ := run_append_own (P := Tryz.prog) (w := w) base 47 o.type 9 i0 (.string ⟨#[]⟩) 1 16 Tryz.underlying47 hi hz0 hz1 hz2 rfl (by decide) v _ _ hown ⟨g, 0, none⟩ m.length cap (m.map Value.string) (by simp) (by
          intro j u hj
          have hjm : j < m.length := by
            have := (List.getElem?_eq_some_iff.1 hj).1
            simpa using this
          rw [Addr.add_lit, Nat.zero_add, h6 j hjm]
          have e : (m.map Value.string)[j]? = some (Value.string (m.getD j ByteArray.empty)) := by simp [List.getD, hjm]
          rw [e] at hj
          exact hj) (by intro u hu; obtain ⟨x, _, rfl⟩ := List.mem_map.1 hu; rfl) (by unfold maxLen; omega) (by omega) hbase
      refine ⟨v', w', hrun, ?_, (Below.refl base w).grown e3 hbase (fun k hk => (hown.lt k hk).1)⟩
      rw [List.map_append, List.length_append]
      exact e2
  obtain ⟨v', w', hrun, e2, e3⟩ := key
  unfold Oper.wp execOp
  simp only [ho, resolve, invoke, builtin, Sem.run_bind, Sem.run_pure, Result.andThen_ok, List.map_toArray, List.map_cons, List.map_nil, hs, hx, hrun]
  obtain ⟨a', cap', rfl, _, hr2⟩ := StrRow.ofOwn e2
  exact h a' cap' w' e2 hr2 e3
/-- what is known while a history is made: the parameter's block P and the answer's block P + 1 -/
structure Hst (w W : World) (s0 : Value) (q : Int) : Prop where
  bel : Below w.heap.size w W
  lt : w.heap.size + 2 ≤ W.heap.size
  p0 : W.cell? ⟨w.heap.size, 0, none⟩ = some s0
  p1 : W.cell? ⟨w.heap.size, 1, none⟩ = some (.int .i64 q)
  r0 : ∃ u, W.cell? ⟨w.heap.size + 1, 0, none⟩ = some u
  r1 : ∃ u, W.cell? ⟨w.heap.size + 1, 1, none⟩ = some u
  f0 : W.frozen? ⟨w.heap.size + 1, 0, none⟩ = false
  f1 : W.frozen? ⟨w.heap.size + 1, 1, none⟩ = false
theorem Hst.below {w W W' : World} {s0 : Value} {q : Int} {B : Nat} (h : Hst w W s0 q) (hb : Below B W W') (hB : w.heap.size + 2 ≤ B) : Hst w W' s0 q where
  bel := h.bel.trans (hb.mono (by omega))
  lt := Nat.le_trans h.lt hb.size
  p0 := by rw [hb.cell (by show w.heap.size < B; omega)]; exact h.p0
  p1 := by rw [hb.cell (by show w.heap.size < B; omega)]; exact h.p1
  r0 := by rw [hb.cell (by show w.heap.size + 1 < B; omega)]; exact h.r0
  r1 := by rw [hb.cell (by show w.heap.size + 1 < B; omega)]; exact h.r1
  f0 := by rw [hb.frozen (by show w.heap.size + 1 < B; omega)]; exact h.f0
  f1 := by rw [hb.frozen (by show w.heap.size + 1 < B; omega)]; exact h.f1
theorem Hst.start (w : World) (s0 : Value) (q : Int) : Hst w ((w.alloc (Obj.cells #[s0, .int .i64 q] 57)).alloc (Obj.cells #[.slice none 0 0, .int .i64 0] 57)) s0 q := by
  refine ⟨((Below.refl _ w).alloc (Nat.le_refl _) _).alloc (by simp) _, by simp, ?_, ?_, ⟨.slice none 0 0, ?_⟩, ⟨.int .i64 0, ?_⟩, ?_, ?_⟩ <;> simp
theorem Hst.done {w W : World} {s0 : Value} {q : Int} (h : Hst w W s0 q) (v : Value) (q' : Int) {a : Option Addr} {cap : Nat} {l : List ByteArray} (hr : StrRow (w.heap.size + 2) a cap l W) :
    ((W.setCell ⟨w.heap.size + 1, 0, none⟩ v).setCell ⟨w.heap.size + 1, 1, none⟩ (.int .i64 q')).cell? ⟨w.heap.size + 1, 0, none⟩ = some v ∧
    ((W.setCell ⟨w.heap.size + 1, 0, none⟩ v).setCell ⟨w.heap.size + 1, 1, none⟩ (.int .i64 q')).cell? ⟨w.heap.size + 1, 1, none⟩ = some (.int .i64 q') ∧
    Below w.heap.size w ((W.setCell ⟨w.heap.size + 1, 0, none⟩ v).setCell ⟨w.heap.size + 1, 1, none⟩ (.int .i64 q')) ∧
    StrRow w.heap.size a cap l ((W.setCell ⟨w.heap.size + 1, 0, none⟩ v).setCell ⟨w.heap.size + 1, 1, none⟩ (.int .i64 q')) := by
  obtain ⟨u0, r0⟩ := h.r0
  obtain ⟨u1, r1⟩ := h.r1
  have r1' : (W.setCell ⟨w.heap.size + 1, 0, none⟩ v).cell? ⟨w.heap.size + 1, 1, none⟩ = some u1 := by
    rw [World.cell?_setCell_other _ _ _ _ (by simp), r1]
  refine ⟨?_, ?_, (h.bel.setCell (by show w.heap.size ≤ w.heap.size + 1; omega) v).setCell (by show w.heap.size ≤ w.heap.size + 1; omega) _, ?_⟩
  · rw [World.cell?_setCell_other _ _ _ _ (by simp)]
    exact World.cell?_setCell_same _ _ _ r0
  · exact World.cell?_setCell_same _ _ _ r1'
  · rcases hr with hr | ⟨g, h1, h2, h3, h4, h5, h6⟩
    · exact Or.inl hr
    · refine Or.inr ⟨g, h1, by omega, by simpa [World.setCell] using h3, h4, h5, fun j hj => ?_⟩
      rw [World.cell?_setCell_other _ _ _ _ (by intro e; cases e; omega), World.cell?_setCell_other _ _ _ _ (by intro e; cases e; omega)]
      exact h6 j hj
end Go.Proofs.YtimhaidiclbnhaaGreat.Con
