/- Texts that are cut at a '/', that lose their beginning, that are read as numbers. Condition of Atoi: the two sentinels are laid. -/
import Derived.Test.YtdomlnhgafielaaGreatDoorStrD
import Derived.Test.YtdomlnhgafielaaGreatDoorAmpTxtD
import Derived.Test.YtdomlnhgafielaaGreatDoorRegionE
namespace Go.Proofs.YtdomlnhgafielaaGreatDoor
open Go Go.RowKit Amp

attribute [go_sem 100000] strB_list
theorem isE_t {l : List UInt8} (h : l = []) : l.isEmpty = true := by rw [h]; rfl
theorem isE_f {l : List UInt8} (h : l ≠ []) : l.isEmpty = false := by cases l with | nil => exact absurd rfl h | cons a t => rfl
theorem eq_t {l m : List UInt8} (h : l = m) : (l == m) = true := beq_iff_eq.2 h
theorem eq_f {l m : List UInt8} (h : l ≠ m) : (l == m) = false := beq_eq_false_iff_ne.2 h
@[go_sem 100000] theorem run_str_fromS (l : List UInt8) (i : Nat) (w : World) (h : i + 1 ≤ l.length) : (Instr.sliceAt 9 (.string (strB l)) (some (.int .i64 ((i : Int) + 1))) none none).run Tryz.prog w = .ok (.string (strB (l.drop (i + 1)))) w := run_str_from l (i + 1) w h
/-- A byte of a text, as a number. -/
def byteI (l : List UInt8) (i : Nat) : Int := ((l.getD i 0).toNat : Int)
theorem byteI_range (l : List UInt8) (i : Nat) : 0 ≤ byteI l i ∧ byteI l i ≤ 255 := by
  have := (l.getD i 0).toNat_lt
  unfold byteI
  omega
@[go_sem 200000] theorem run_str_indexB (l : List UInt8) (i : Nat) (w : World) (h : i < l.length) : (Instr.index 9 (.string (strB l)) (.int .i64 (i : Int))).run Tryz.prog w = .ok (.int .u8 (byteI l i)) w := run_str_index l i w h
@[go_sem 200000] theorem run_str_indexB0 (l : List UInt8) (w : World) (h : 0 < l.length) : (Instr.index 9 (.string (strB l)) (.int .i64 0)).run Tryz.prog w = .ok (.int .u8 (byteI l 0)) w := run_str_index l 0 w h
theorem index47 (l : List UInt8) (w : World) : Calls Tryz.prog 79 #[.string (strB l), .string ⟨#[47]⟩] w fun e w' => e = .returned (.int .i64 (Lib.indexByte l 47)) ∧ w' = w := by
  have := Tryz.stringslite_Index_one (strB l) 47 w
  rw [strB_of] at this
  exact this
set_option maxHeartbeats 1000000 in
set_option maxRecDepth 100000 in
theorem scut47 (l : List UInt8) (w : World) (hl : l.length ≤ 140737488351232) :
    Calls Tryz.prog 62 #[.string (strB l), .string ⟨#[47]⟩] w fun e w' => e = .returned (.tuple #[.string (strB (bef l)), .string (strB (aft l)), .bool (has47 l)]) ∧ Grew w w' := by
  obtain ⟨h1, h2⟩ := idx_bef l
  have HI := hid fun w => index47 l w
  by_cases hb : has47 l = true
  · obtain ⟨a1, a2⟩ := h1 hb
    rw [hb, ← bef_take, ← aft_drop]
    rw [a1] at HI
    clear h1 h2 a1 hb
    obtain ⟨n, hn⟩ : ∃ n, (bef l).length = n := ⟨_, rfl⟩
    rw [hn] at a2 HI ⊢
    clear hn
    have hn0 : n ≤ l.length := by omega
    go_enter Tryz.func62, Tryz.ntmps62
    go_wp2_with fail
    refine (HI.out _).mono ?_
    rintro e w1 ⟨rfl, rfl⟩
    go_wp2_with fail
    refine wp_region_gentle_lit (by kernel_rfl) (by kernel_rfl) ?_
    repeat (first | go_big_quiet_skip | (go_big_quiet_want; go_big_quiet_op; first | go_big_quiet_on | fail))
    refine wpQuiet_nil ?_
    rintro _ ⟨gg, ng, rfl⟩
    go_wp2_with fail
    exact bodyPost_ret (v := .tuple #[.string (strB (l.take n)), .string (strB (l.drop (n + 1))), .bool true]) (by simp [results, Tryz.results62, go_sem]) rfl ⟨rfl, (by repeat (first | exact Grew.refl _ | refine Grew.drewN ?_ _ | refine Grew.grow ?_ _ | refine Grew.alloc ?_ _ | refine Grew.drew ?_))⟩
  · have hb : has47 l = false := by simpa using hb
    obtain ⟨a1, a2, a3⟩ := h2 hb
    rw [hb, a2, a3]
    rw [a1] at HI
    clear h1 h2 a1 a2 a3 hb
    go_enter Tryz.func62, Tryz.ntmps62
    go_wp2_with fail
    refine (HI.out _).mono ?_
    rintro e w1 ⟨rfl, rfl⟩
    go_wp2_with fail
    exact bodyPost_ret (v := .tuple #[.string (strB l), .string ⟨#[]⟩, .bool false]) (by simp [results, Tryz.results62, go_sem]) rfl ⟨rfl, (by repeat (first | exact Grew.refl _ | refine Grew.drewN ?_ _ | refine Grew.grow ?_ _ | refine Grew.alloc ?_ _ | refine Grew.drew ?_))⟩
theorem cut47 (l : List UInt8) (w : World) (hl : l.length ≤ 140737488351232) :
    Calls Tryz.prog 43 #[.string (strB l), .string ⟨#[47]⟩] w fun e w' => e = .returned (.tuple #[.string (strB (bef l)), .string (strB (aft l)), .bool (has47 l)]) ∧ Grew w w' := by
  go_enter Tryz.func43, Tryz.ntmps43
  go_wp2_with fail
  refine (scut47 l _ hl).mono ?_
  rintro e w1 ⟨rfl, g, n, rfl⟩
  go_wp2_with fail
  exact bodyPost_ret (v := .tuple #[.string (strB (bef l)), .string (strB (aft l)), .bool (has47 l)]) (by simp [results, Tryz.results43, go_sem]) rfl ⟨rfl, (by repeat (first | exact Grew.refl _ | refine Grew.drewN ?_ _ | refine Grew.grow ?_ _ | refine Grew.alloc ?_ _ | refine Grew.drew ?_))⟩
/-- What the program's text lays: the table of powers of ten, two errors. -/
structure LaidW (w : World) : Prop where
  tab : Tab w
  syn : ∃ tp p, w.var? Tryz.prog "strconv.ErrSyntax" = some #[.iface tp p]
  rng : ∃ tp p, w.var? Tryz.prog "strconv.ErrRange" = some #[.iface tp p]
theorem LaidW.below {w w' : World} (h : LaidW w) (hb : Below w.heap.size w w') : LaidW w' := by
  obtain ⟨h1, ⟨t2, p2, h2⟩, ⟨t3, p3, h3⟩⟩ := h
  exact ⟨h1.below hb, ⟨t2, p2, var_below h2 hb⟩, ⟨t3, p3, var_below h3 hb⟩⟩
def numA (l : List UInt8) : Int := match Lib.atoiAll l with | .ok v => v | .syntax => 0 | .range => Lib.atoiSat l
def okA (l : List UInt8) : Bool := match Lib.atoiAll l with | .ok _ => true | _ => false
def ErrIs (er : Value) (b : Bool) : Prop := if b = true then er = .nilIface else ∃ N, er = .iface 133 (.pointer (some ⟨N, 0, none⟩))
theorem atoi_any (l : List UInt8) (w : World) (hl : l.length ≤ 140737488351232) (hL : LaidW w) :
    Calls Tryz.prog 64 #[.string (strB l)] w fun e w' => (∃ er, e = .returned (.tuple #[.int .i64 (numA l), er]) ∧ ErrIs er (okA l)) ∧ Below w.heap.size w w' := by
  obtain ⟨_, ⟨t2, p2, h2⟩, ⟨t3, p3, h3⟩⟩ := hL
  have hz : (strB l).size = l.length := strB_size l
  have hd : (strB l).data.toList = l := strB_of l
  unfold numA okA
  have hcs : (∃ v, Lib.atoiAll l = .ok v) ∨ Lib.atoiAll l = .syntax ∨ Lib.atoiAll l = .range := by cases Lib.atoiAll l <;> simp
  rcases hcs with ⟨v, h⟩ | h | h
  case inl =>
    rw [h]
    refine (Tryz.strconv_Atoi_ok (strB l) (by omega) v (by rw [hd]; exact h) w).mono ?_
    rintro e w' ⟨rfl, hw⟩
    refine ⟨⟨_, rfl, rfl⟩, ?_⟩
    rcases hw with rfl | ⟨t, rfl⟩
    · exact Below.refl _ _
    · exact Lib.bytesWorld_below _ _ _
  case inr.inl =>
    rw [h]
    refine (Tryz.strconv_Atoi_syntax_var (strB l) (by omega) (by rw [hd]; exact h) t2 p2 w h2).mono ?_
    rintro e w' ⟨N, rfl, _, _, hb⟩
    exact ⟨⟨_, rfl, N, rfl⟩, hb⟩
  case inr.inr =>
    rw [h]
    have := Tryz.strconv_Atoi_range_var (strB l) (by omega) (by rw [hd]; exact h) t3 p3 w h3
    rw [hd] at this
    refine this.mono ?_
    rintro e w' ⟨N, rfl, _, _, hb⟩
    exact ⟨⟨_, rfl, N, rfl⟩, hb⟩

end Go.Proofs.YtdomlnhgafielaaGreatDoor
