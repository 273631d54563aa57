/- message.row by contract: a kind's parts. No condition. -/
import Derived.Test.YtldijmappinngaaGreatDoorOE04
namespace Go.Proofs.YtldijmappinngaaGreatDoor
open Go.RowKit Go.Kb
set_option maxRecDepth 100000

set_option maxHeartbeats 800000 in
theorem mrow_1 (w : World) : Calls Tryz.prog 20 #[.int .i64 1] w (RowP 1 w) := by
  unfold RowP
  rw [show rowL 1 = some [paCode, paWords, paLang] from by simp [rowL]]
  go_enter Tryz.func20, Tryz.ntmps20
  go_wp2_with fail
  refine (code_part _).mono ?_
  rintro e w1 ⟨rfl, E1⟩
  have E01 : Ext w w1 := (by repeat (first | with_reducible exact Ext.refl _ | refine Ext.drewN ?_ _ | refine Ext.drew ?_ | refine Ext.alloc ?_ _ | assumption | (refine Below.trans ?_ (by assumption)) | (refine Ext.trans ?_ (by assumption)) | (refine Below.trans ?_ (Below.mono (by assumption) (by omega)))))
  go_wp2_with fail
  refine (words_part _).mono ?_
  rintro e w2 ⟨rfl, E2⟩
  have E02 : Ext w w2 := (by repeat (first | with_reducible exact Ext.refl _ | refine Ext.drewN ?_ _ | refine Ext.drew ?_ | refine Ext.alloc ?_ _ | assumption | (refine Below.trans ?_ (by assumption)) | (refine Ext.trans ?_ (by assumption)) | (refine Below.trans ?_ (Below.mono (by assumption) (by omega)))))
  go_wp2_with fail
  refine (lang_part _).mono ?_
  rintro e w3 ⟨rfl, E3⟩
  have E03 : Ext w w3 := (by repeat (first | with_reducible exact Ext.refl _ | refine Ext.drewN ?_ _ | refine Ext.drew ?_ | refine Ext.alloc ?_ _ | assumption | (refine Below.trans ?_ (by assumption)) | (refine Ext.trans ?_ (by assumption)) | (refine Below.trans ?_ (Below.mono (by assumption) (by omega)))))
  have HB := Lib.hid (Blk.new w3 71 (([paCode, paWords, paLang] : List Pa).flatMap (fun q => (paA q).toList)).toArray)
  have EE := Lib.hid E03
  go_wp2
  go_ret2
  exact ⟨EE.out.alloc _, _, rfl, .inr ⟨_, rfl, EE.out.size, HB.out⟩⟩
set_option maxHeartbeats 800000 in
theorem mrow_80 (w : World) : Calls Tryz.prog 20 #[.int .i64 80] w (RowP 80 w) := by
  unfold RowP
  rw [show rowL 80 = some [paName, paWant, paRest] from by simp [rowL]]
  go_enter Tryz.func20, Tryz.ntmps20
  go_wp2_with fail
  refine (name_part _).mono ?_
  rintro e w1 ⟨rfl, E1⟩
  have E01 : Ext w w1 := (by repeat (first | with_reducible exact Ext.refl _ | refine Ext.drewN ?_ _ | refine Ext.drew ?_ | refine Ext.alloc ?_ _ | assumption | (refine Below.trans ?_ (by assumption)) | (refine Ext.trans ?_ (by assumption)) | (refine Below.trans ?_ (Below.mono (by assumption) (by omega)))))
  go_wp2_with fail
  refine (want_part _).mono ?_
  rintro e w2 ⟨rfl, E2⟩
  have E02 : Ext w w2 := (by repeat (first | with_reducible exact Ext.refl _ | refine Ext.drewN ?_ _ | refine Ext.drew ?_ | refine Ext.alloc ?_ _ | assumption | (refine Below.trans ?_ (by assumption)) | (refine Ext.trans ?_ (by assumption)) | (refine Below.trans ?_ (Below.mono (by assumption) (by omega)))))
  go_wp2_with fail
  refine (rest_part _).mono ?_
  rintro e w3 ⟨rfl, E3⟩
  have E03 : Ext w w3 := (by repeat (first | with_reducible exact Ext.refl _ | refine Ext.drewN ?_ _ | refine Ext.drew ?_ | refine Ext.alloc ?_ _ | assumption | (refine Below.trans ?_ (by assumption)) | (refine Ext.trans ?_ (by assumption)) | (refine Below.trans ?_ (Below.mono (by assumption) (by omega)))))
  have HB := Lib.hid (Blk.new w3 71 (([paName, paWant, paRest] : List Pa).flatMap (fun q => (paA q).toList)).toArray)
  have EE := Lib.hid E03
  go_wp2
  go_ret2
  exact ⟨EE.out.alloc _, _, rfl, .inr ⟨_, rfl, EE.out.size, HB.out⟩⟩
set_option maxHeartbeats 800000 in
theorem mrow_81 (w : World) : Calls Tryz.prog 20 #[.int .i64 81] w (RowP 81 w) := by
  unfold RowP
  rw [show rowL 81 = some [paRest] from by simp [rowL]]
  go_enter Tryz.func20, Tryz.ntmps20
  go_wp2_with fail
  refine (rest_part _).mono ?_
  rintro e w1 ⟨rfl, E1⟩
  have E01 : Ext w w1 := (by repeat (first | with_reducible exact Ext.refl _ | refine Ext.drewN ?_ _ | refine Ext.drew ?_ | refine Ext.alloc ?_ _ | assumption | (refine Below.trans ?_ (by assumption)) | (refine Ext.trans ?_ (by assumption)) | (refine Below.trans ?_ (Below.mono (by assumption) (by omega)))))
  have HB := Lib.hid (Blk.new w1 71 (([paRest] : List Pa).flatMap (fun q => (paA q).toList)).toArray)
  have EE := Lib.hid E01
  go_wp2
  go_ret2
  exact ⟨EE.out.alloc _, _, rfl, .inr ⟨_, rfl, EE.out.size, HB.out⟩⟩
set_option maxHeartbeats 800000 in
theorem mrow_82 (w : World) : Calls Tryz.prog 20 #[.int .i64 82] w (RowP 82 w) := by
  unfold RowP
  rw [show rowL 82 = some [] from by simp [rowL]]
  go_enter Tryz.func20, Tryz.ntmps20
  go_wp2
  go_ret2
  exact ⟨(by repeat (first | with_reducible exact Ext.refl _ | refine Ext.drewN ?_ _ | refine Ext.drew ?_ | refine Ext.alloc ?_ _ | assumption | (refine Below.trans ?_ (by assumption)) | (refine Ext.trans ?_ (by assumption)) | (refine Below.trans ?_ (Below.mono (by assumption) (by omega))))), _, rfl, .inl (by trivial)⟩
set_option maxHeartbeats 800000 in
theorem mrow_90 (w : World) : Calls Tryz.prog 20 #[.int .i64 90] w (RowP 90 w) := by
  unfold RowP
  rw [show rowL 90 = some [paName, paSender, paWindow, paPacket, paRest] from by simp [rowL]]
  go_enter Tryz.func20, Tryz.ntmps20
  go_wp2_with fail
  refine (name_part _).mono ?_
  rintro e w1 ⟨rfl, E1⟩
  have E01 : Ext w w1 := (by repeat (first | with_reducible exact Ext.refl _ | refine Ext.drewN ?_ _ | refine Ext.drew ?_ | refine Ext.alloc ?_ _ | assumption | (refine Below.trans ?_ (by assumption)) | (refine Ext.trans ?_ (by assumption)) | (refine Below.trans ?_ (Below.mono (by assumption) (by omega)))))
  go_wp2_with fail
  refine (sender_part _).mono ?_
  rintro e w2 ⟨rfl, E2⟩
  have E02 : Ext w w2 := (by repeat (first | with_reducible exact Ext.refl _ | refine Ext.drewN ?_ _ | refine Ext.drew ?_ | refine Ext.alloc ?_ _ | assumption | (refine Below.trans ?_ (by assumption)) | (refine Ext.trans ?_ (by assumption)) | (refine Below.trans ?_ (Below.mono (by assumption) (by omega)))))
  go_wp2_with fail
  refine (window_part _).mono ?_
  rintro e w3 ⟨rfl, E3⟩
  have E03 : Ext w w3 := (by repeat (first | with_reducible exact Ext.refl _ | refine Ext.drewN ?_ _ | refine Ext.drew ?_ | refine Ext.alloc ?_ _ | assumption | (refine Below.trans ?_ (by assumption)) | (refine Ext.trans ?_ (by assumption)) | (refine Below.trans ?_ (Below.mono (by assumption) (by omega)))))
  go_wp2_with fail
  refine (packet_part _).mono ?_
  rintro e w4 ⟨rfl, E4⟩
  have E04 : Ext w w4 := (by repeat (first | with_reducible exact Ext.refl _ | refine Ext.drewN ?_ _ | refine Ext.drew ?_ | refine Ext.alloc ?_ _ | assumption | (refine Below.trans ?_ (by assumption)) | (refine Ext.trans ?_ (by assumption)) | (refine Below.trans ?_ (Below.mono (by assumption) (by omega)))))
  go_wp2_with fail
  refine (rest_part _).mono ?_
  rintro e w5 ⟨rfl, E5⟩
  have E05 : Ext w w5 := (by repeat (first | with_reducible exact Ext.refl _ | refine Ext.drewN ?_ _ | refine Ext.drew ?_ | refine Ext.alloc ?_ _ | assumption | (refine Below.trans ?_ (by assumption)) | (refine Ext.trans ?_ (by assumption)) | (refine Below.trans ?_ (Below.mono (by assumption) (by omega)))))
  have HB := Lib.hid (Blk.new w5 71 (([paName, paSender, paWindow, paPacket, paRest] : List Pa).flatMap (fun q => (paA q).toList)).toArray)
  have EE := Lib.hid E05
  go_wp2
  go_ret2
  exact ⟨EE.out.alloc _, _, rfl, .inr ⟨_, rfl, EE.out.size, HB.out⟩⟩
set_option maxHeartbeats 800000 in
theorem mrow_91 (w : World) : Calls Tryz.prog 20 #[.int .i64 91] w (RowP 91 w) := by
  unfold RowP
  rw [show rowL 91 = some [paChan, paSender, paWindow, paPacket, paRest] from by simp [rowL]]
  go_enter Tryz.func20, Tryz.ntmps20
  go_wp2_with fail
  refine (channel_part _).mono ?_
  rintro e w1 ⟨rfl, E1⟩
  have E01 : Ext w w1 := (by repeat (first | with_reducible exact Ext.refl _ | refine Ext.drewN ?_ _ | refine Ext.drew ?_ | refine Ext.alloc ?_ _ | assumption | (refine Below.trans ?_ (by assumption)) | (refine Ext.trans ?_ (by assumption)) | (refine Below.trans ?_ (Below.mono (by assumption) (by omega)))))
  go_wp2_with fail
  refine (sender_part _).mono ?_
  rintro e w2 ⟨rfl, E2⟩
  have E02 : Ext w w2 := (by repeat (first | with_reducible exact Ext.refl _ | refine Ext.drewN ?_ _ | refine Ext.drew ?_ | refine Ext.alloc ?_ _ | assumption | (refine Below.trans ?_ (by assumption)) | (refine Ext.trans ?_ (by assumption)) | (refine Below.trans ?_ (Below.mono (by assumption) (by omega)))))
  go_wp2_with fail
  refine (window_part _).mono ?_
  rintro e w3 ⟨rfl, E3⟩
  have E03 : Ext w w3 := (by repeat (first | with_reducible exact Ext.refl _ | refine Ext.drewN ?_ _ | refine Ext.drew ?_ | refine Ext.alloc ?_ _ | assumption | (refine Below.trans ?_ (by assumption)) | (refine Ext.trans ?_ (by assumption)) | (refine Below.trans ?_ (Below.mono (by assumption) (by omega)))))
  go_wp2_with fail
  refine (packet_part _).mono ?_
  rintro e w4 ⟨rfl, E4⟩
  have E04 : Ext w w4 := (by repeat (first | with_reducible exact Ext.refl _ | refine Ext.drewN ?_ _ | refine Ext.drew ?_ | refine Ext.alloc ?_ _ | assumption | (refine Below.trans ?_ (by assumption)) | (refine Ext.trans ?_ (by assumption)) | (refine Below.trans ?_ (Below.mono (by assumption) (by omega)))))
  go_wp2_with fail
  refine (rest_part _).mono ?_
  rintro e w5 ⟨rfl, E5⟩
  have E05 : Ext w w5 := (by repeat (first | with_reducible exact Ext.refl _ | refine Ext.drewN ?_ _ | refine Ext.drew ?_ | refine Ext.alloc ?_ _ | assumption | (refine Below.trans ?_ (by assumption)) | (refine Ext.trans ?_ (by assumption)) | (refine Below.trans ?_ (Below.mono (by assumption) (by omega)))))
  have HB := Lib.hid (Blk.new w5 71 (([paChan, paSender, paWindow, paPacket, paRest] : List Pa).flatMap (fun q => (paA q).toList)).toArray)
  have EE := Lib.hid E05
  go_wp2
  go_ret2
  exact ⟨EE.out.alloc _, _, rfl, .inr ⟨_, rfl, EE.out.size, HB.out⟩⟩
set_option maxHeartbeats 800000 in
theorem mrow_92 (w : World) : Calls Tryz.prog 20 #[.int .i64 92] w (RowP 92 w) := by
  unfold RowP
  rw [show rowL 92 = some [paChan, paCode, paWords, paLang] from by simp [rowL]]
  go_enter Tryz.func20, Tryz.ntmps20
  go_wp2_with fail
  refine (channel_part _).mono ?_
  rintro e w1 ⟨rfl, E1⟩
  have E01 : Ext w w1 := (by repeat (first | with_reducible exact Ext.refl _ | refine Ext.drewN ?_ _ | refine Ext.drew ?_ | refine Ext.alloc ?_ _ | assumption | (refine Below.trans ?_ (by assumption)) | (refine Ext.trans ?_ (by assumption)) | (refine Below.trans ?_ (Below.mono (by assumption) (by omega)))))
  go_wp2_with fail
  refine (code_part _).mono ?_
  rintro e w2 ⟨rfl, E2⟩
  have E02 : Ext w w2 := (by repeat (first | with_reducible exact Ext.refl _ | refine Ext.drewN ?_ _ | refine Ext.drew ?_ | refine Ext.alloc ?_ _ | assumption | (refine Below.trans ?_ (by assumption)) | (refine Ext.trans ?_ (by assumption)) | (refine Below.trans ?_ (Below.mono (by assumption) (by omega)))))
  go_wp2_with fail
  refine (words_part _).mono ?_
  rintro e w3 ⟨rfl, E3⟩
  have E03 : Ext w w3 := (by repeat (first | with_reducible exact Ext.refl _ | refine Ext.drewN ?_ _ | refine Ext.drew ?_ | refine Ext.alloc ?_ _ | assumption | (refine Below.trans ?_ (by assumption)) | (refine Ext.trans ?_ (by assumption)) | (refine Below.trans ?_ (Below.mono (by assumption) (by omega)))))
  go_wp2_with fail
  refine (lang_part _).mono ?_
  rintro e w4 ⟨rfl, E4⟩
  have E04 : Ext w w4 := (by repeat (first | with_reducible exact Ext.refl _ | refine Ext.drewN ?_ _ | refine Ext.drew ?_ | refine Ext.alloc ?_ _ | assumption | (refine Below.trans ?_ (by assumption)) | (refine Ext.trans ?_ (by assumption)) | (refine Below.trans ?_ (Below.mono (by assumption) (by omega)))))
  have HB := Lib.hid (Blk.new w4 71 (([paChan, paCode, paWords, paLang] : List Pa).flatMap (fun q => (paA q).toList)).toArray)
  have EE := Lib.hid E04
  go_wp2
  go_ret2
  exact ⟨EE.out.alloc _, _, rfl, .inr ⟨_, rfl, EE.out.size, HB.out⟩⟩
set_option maxHeartbeats 800000 in
theorem mrow_93 (w : World) : Calls Tryz.prog 20 #[.int .i64 93] w (RowP 93 w) := by
  unfold RowP
  rw [show rowL 93 = some [paChan, paWindow] from by simp [rowL]]
  go_enter Tryz.func20, Tryz.ntmps20
  go_wp2_with fail
  refine (channel_part _).mono ?_
  rintro e w1 ⟨rfl, E1⟩
  have E01 : Ext w w1 := (by repeat (first | with_reducible exact Ext.refl _ | refine Ext.drewN ?_ _ | refine Ext.drew ?_ | refine Ext.alloc ?_ _ | assumption | (refine Below.trans ?_ (by assumption)) | (refine Ext.trans ?_ (by assumption)) | (refine Below.trans ?_ (Below.mono (by assumption) (by omega)))))
  go_wp2_with fail
  refine (window_part _).mono ?_
  rintro e w2 ⟨rfl, E2⟩
  have E02 : Ext w w2 := (by repeat (first | with_reducible exact Ext.refl _ | refine Ext.drewN ?_ _ | refine Ext.drew ?_ | refine Ext.alloc ?_ _ | assumption | (refine Below.trans ?_ (by assumption)) | (refine Ext.trans ?_ (by assumption)) | (refine Below.trans ?_ (Below.mono (by assumption) (by omega)))))
  have HB := Lib.hid (Blk.new w2 71 (([paChan, paWindow] : List Pa).flatMap (fun q => (paA q).toList)).toArray)
  have EE := Lib.hid E02
  go_wp2
  go_ret2
  exact ⟨EE.out.alloc _, _, rfl, .inr ⟨_, rfl, EE.out.size, HB.out⟩⟩
set_option maxHeartbeats 800000 in
theorem mrow_94 (w : World) : Calls Tryz.prog 20 #[.int .i64 94] w (RowP 94 w) := by
  unfold RowP
  rw [show rowL 94 = some [paChan, paWords] from by simp [rowL]]
  go_enter Tryz.func20, Tryz.ntmps20
  go_wp2_with fail
  refine (channel_part _).mono ?_
  rintro e w1 ⟨rfl, E1⟩
  have E01 : Ext w w1 := (by repeat (first | with_reducible exact Ext.refl _ | refine Ext.drewN ?_ _ | refine Ext.drew ?_ | refine Ext.alloc ?_ _ | assumption | (refine Below.trans ?_ (by assumption)) | (refine Ext.trans ?_ (by assumption)) | (refine Below.trans ?_ (Below.mono (by assumption) (by omega)))))
  go_wp2_with fail
  refine (words_part _).mono ?_
  rintro e w2 ⟨rfl, E2⟩
  have E02 : Ext w w2 := (by repeat (first | with_reducible exact Ext.refl _ | refine Ext.drewN ?_ _ | refine Ext.drew ?_ | refine Ext.alloc ?_ _ | assumption | (refine Below.trans ?_ (by assumption)) | (refine Ext.trans ?_ (by assumption)) | (refine Below.trans ?_ (Below.mono (by assumption) (by omega)))))
  have HB := Lib.hid (Blk.new w2 71 (([paChan, paWords] : List Pa).flatMap (fun q => (paA q).toList)).toArray)
  have EE := Lib.hid E02
  go_wp2
  go_ret2
  exact ⟨EE.out.alloc _, _, rfl, .inr ⟨_, rfl, EE.out.size, HB.out⟩⟩
set_option maxHeartbeats 800000 in
theorem mrow_95 (w : World) : Calls Tryz.prog 20 #[.int .i64 95] w (RowP 95 w) := by
  unfold RowP
  rw [show rowL 95 = some [paChan, paCode, paWords] from by simp [rowL]]
  go_enter Tryz.func20, Tryz.ntmps20
  go_wp2_with fail
  refine (channel_part _).mono ?_
  rintro e w1 ⟨rfl, E1⟩
  have E01 : Ext w w1 := (by repeat (first | with_reducible exact Ext.refl _ | refine Ext.drewN ?_ _ | refine Ext.drew ?_ | refine Ext.alloc ?_ _ | assumption | (refine Below.trans ?_ (by assumption)) | (refine Ext.trans ?_ (by assumption)) | (refine Below.trans ?_ (Below.mono (by assumption) (by omega)))))
  go_wp2_with fail
  refine (code_part _).mono ?_
  rintro e w2 ⟨rfl, E2⟩
  have E02 : Ext w w2 := (by repeat (first | with_reducible exact Ext.refl _ | refine Ext.drewN ?_ _ | refine Ext.drew ?_ | refine Ext.alloc ?_ _ | assumption | (refine Below.trans ?_ (by assumption)) | (refine Ext.trans ?_ (by assumption)) | (refine Below.trans ?_ (Below.mono (by assumption) (by omega)))))
  go_wp2_with fail
  refine (words_part _).mono ?_
  rintro e w3 ⟨rfl, E3⟩
  have E03 : Ext w w3 := (by repeat (first | with_reducible exact Ext.refl _ | refine Ext.drewN ?_ _ | refine Ext.drew ?_ | refine Ext.alloc ?_ _ | assumption | (refine Below.trans ?_ (by assumption)) | (refine Ext.trans ?_ (by assumption)) | (refine Below.trans ?_ (Below.mono (by assumption) (by omega)))))
  have HB := Lib.hid (Blk.new w3 71 (([paChan, paCode, paWords] : List Pa).flatMap (fun q => (paA q).toList)).toArray)
  have EE := Lib.hid E03
  go_wp2
  go_ret2
  exact ⟨EE.out.alloc _, _, rfl, .inr ⟨_, rfl, EE.out.size, HB.out⟩⟩
set_option maxHeartbeats 800000 in
theorem mrow_96 (w : World) : Calls Tryz.prog 20 #[.int .i64 96] w (RowP 96 w) := by
  unfold RowP
  rw [show rowL 96 = some [paChan] from by simp [rowL]]
  go_enter Tryz.func20, Tryz.ntmps20
  go_wp2_with fail
  refine (channel_part _).mono ?_
  rintro e w1 ⟨rfl, E1⟩
  have E01 : Ext w w1 := (by repeat (first | with_reducible exact Ext.refl _ | refine Ext.drewN ?_ _ | refine Ext.drew ?_ | refine Ext.alloc ?_ _ | assumption | (refine Below.trans ?_ (by assumption)) | (refine Ext.trans ?_ (by assumption)) | (refine Below.trans ?_ (Below.mono (by assumption) (by omega)))))
  have HB := Lib.hid (Blk.new w1 71 (([paChan] : List Pa).flatMap (fun q => (paA q).toList)).toArray)
  have EE := Lib.hid E01
  go_wp2
  go_ret2
  exact ⟨EE.out.alloc _, _, rfl, .inr ⟨_, rfl, EE.out.size, HB.out⟩⟩
set_option maxHeartbeats 800000 in
theorem mrow_97 (w : World) : Calls Tryz.prog 20 #[.int .i64 97] w (RowP 97 w) := by
  unfold RowP
  rw [show rowL 97 = some [paChan] from by simp [rowL]]
  go_enter Tryz.func20, Tryz.ntmps20
  go_wp2_with fail
  refine (channel_part _).mono ?_
  rintro e w1 ⟨rfl, E1⟩
  have E01 : Ext w w1 := (by repeat (first | with_reducible exact Ext.refl _ | refine Ext.drewN ?_ _ | refine Ext.drew ?_ | refine Ext.alloc ?_ _ | assumption | (refine Below.trans ?_ (by assumption)) | (refine Ext.trans ?_ (by assumption)) | (refine Below.trans ?_ (Below.mono (by assumption) (by omega)))))
  have HB := Lib.hid (Blk.new w1 71 (([paChan] : List Pa).flatMap (fun q => (paA q).toList)).toArray)
  have EE := Lib.hid E01
  go_wp2
  go_ret2
  exact ⟨EE.out.alloc _, _, rfl, .inr ⟨_, rfl, EE.out.size, HB.out⟩⟩
set_option maxHeartbeats 800000 in
theorem mrow_99 (w : World) : Calls Tryz.prog 20 #[.int .i64 99] w (RowP 99 w) := by
  unfold RowP
  rw [show rowL 99 = some [paChan] from by simp [rowL]]
  go_enter Tryz.func20, Tryz.ntmps20
  go_wp2_with fail
  refine (channel_part _).mono ?_
  rintro e w1 ⟨rfl, E1⟩
  have E01 : Ext w w1 := (by repeat (first | with_reducible exact Ext.refl _ | refine Ext.drewN ?_ _ | refine Ext.drew ?_ | refine Ext.alloc ?_ _ | assumption | (refine Below.trans ?_ (by assumption)) | (refine Ext.trans ?_ (by assumption)) | (refine Below.trans ?_ (Below.mono (by assumption) (by omega)))))
  have HB := Lib.hid (Blk.new w1 71 (([paChan] : List Pa).flatMap (fun q => (paA q).toList)).toArray)
  have EE := Lib.hid E01
  go_wp2
  go_ret2
  exact ⟨EE.out.alloc _, _, rfl, .inr ⟨_, rfl, EE.out.size, HB.out⟩⟩
set_option maxHeartbeats 800000 in
theorem mrow_100 (w : World) : Calls Tryz.prog 20 #[.int .i64 100] w (RowP 100 w) := by
  unfold RowP
  rw [show rowL 100 = some [paChan] from by simp [rowL]]
  go_enter Tryz.func20, Tryz.ntmps20
  go_wp2_with fail
  refine (channel_part _).mono ?_
  rintro e w1 ⟨rfl, E1⟩
  have E01 : Ext w w1 := (by repeat (first | with_reducible exact Ext.refl _ | refine Ext.drewN ?_ _ | refine Ext.drew ?_ | refine Ext.alloc ?_ _ | assumption | (refine Below.trans ?_ (by assumption)) | (refine Ext.trans ?_ (by assumption)) | (refine Below.trans ?_ (Below.mono (by assumption) (by omega)))))
  have HB := Lib.hid (Blk.new w1 71 (([paChan] : List Pa).flatMap (fun q => (paA q).toList)).toArray)
  have EE := Lib.hid E01
  go_wp2
  go_ret2
  exact ⟨EE.out.alloc _, _, rfl, .inr ⟨_, rfl, EE.out.size, HB.out⟩⟩
set_option maxHeartbeats 800000 in
theorem mrow_98 (w : World) : Calls Tryz.prog 20 #[.int .i64 98] w (RowP 98 w) := by
  unfold RowP
  rw [show rowL 98 = some [paChan, paName, paWant, paRest] from by simp [rowL]]
  go_enter Tryz.func20, Tryz.ntmps20
  go_wp2_with fail
  refine (channel_part _).mono ?_
  rintro e w1 ⟨rfl, E1⟩
  have E01 : Ext w w1 := (by repeat (first | with_reducible exact Ext.refl _ | refine Ext.drewN ?_ _ | refine Ext.drew ?_ | refine Ext.alloc ?_ _ | assumption | (refine Below.trans ?_ (by assumption)) | (refine Ext.trans ?_ (by assumption)) | (refine Below.trans ?_ (Below.mono (by assumption) (by omega)))))
  go_wp2_with fail
  refine (name_part _).mono ?_
  rintro e w2 ⟨rfl, E2⟩
  have E02 : Ext w w2 := (by repeat (first | with_reducible exact Ext.refl _ | refine Ext.drewN ?_ _ | refine Ext.drew ?_ | refine Ext.alloc ?_ _ | assumption | (refine Below.trans ?_ (by assumption)) | (refine Ext.trans ?_ (by assumption)) | (refine Below.trans ?_ (Below.mono (by assumption) (by omega)))))
  go_wp2_with fail
  refine (want_part _).mono ?_
  rintro e w3 ⟨rfl, E3⟩
  have E03 : Ext w w3 := (by repeat (first | with_reducible exact Ext.refl _ | refine Ext.drewN ?_ _ | refine Ext.drew ?_ | refine Ext.alloc ?_ _ | assumption | (refine Below.trans ?_ (by assumption)) | (refine Ext.trans ?_ (by assumption)) | (refine Below.trans ?_ (Below.mono (by assumption) (by omega)))))
  go_wp2_with fail
  refine (rest_part _).mono ?_
  rintro e w4 ⟨rfl, E4⟩
  have E04 : Ext w w4 := (by repeat (first | with_reducible exact Ext.refl _ | refine Ext.drewN ?_ _ | refine Ext.drew ?_ | refine Ext.alloc ?_ _ | assumption | (refine Below.trans ?_ (by assumption)) | (refine Ext.trans ?_ (by assumption)) | (refine Below.trans ?_ (Below.mono (by assumption) (by omega)))))
  have HB := Lib.hid (Blk.new w4 71 (([paChan, paName, paWant, paRest] : List Pa).flatMap (fun q => (paA q).toList)).toArray)
  have EE := Lib.hid E04
  go_wp2
  go_ret2
  exact ⟨EE.out.alloc _, _, rfl, .inr ⟨_, rfl, EE.out.size, HB.out⟩⟩
set_option maxHeartbeats 800000 in
theorem mrow_any (k : Int) (w : World) : Calls Tryz.prog 20 #[.int .i64 k] w (RowP k w) := by
  by_cases h : k = 1 ∨ k = 80 ∨ k = 81 ∨ k = 82 ∨ k = 90 ∨ k = 91 ∨ k = 92 ∨ k = 93 ∨ k = 94 ∨ k = 95 ∨ k = 96 ∨ k = 97 ∨ k = 99 ∨ k = 100 ∨ k = 98
  · rcases h with rfl | rfl | rfl | rfl | rfl | rfl | rfl | rfl | rfl | rfl | rfl | rfl | rfl | rfl | rfl
    · exact mrow_1 w
    · exact mrow_80 w
    · exact mrow_81 w
    · exact mrow_82 w
    · exact mrow_90 w
    · exact mrow_91 w
    · exact mrow_92 w
    · exact mrow_93 w
    · exact mrow_94 w
    · exact mrow_95 w
    · exact mrow_96 w
    · exact mrow_97 w
    · exact mrow_99 w
    · exact mrow_100 w
    · exact mrow_98 w
  · unfold RowP
    simp only [not_or] at h
    obtain ⟨h1, h80, h81, h82, h90, h91, h92, h93, h94, h95, h96, h97, h99, h100, h98⟩ := h
    rw [show rowL k = none from by simp [rowL, h1, h80, h81, h82, h90, h91, h92, h93, h94, h95, h96, h97, h99, h100, h98]]
    have i1 : (k == 1) = false := by simpa using h1
    have i80 : (k == 80) = false := by simpa using h80
    have i81 : (k == 81) = false := by simpa using h81
    have i82 : (k == 82) = false := by simpa using h82
    have i90 : (k == 90) = false := by simpa using h90
    have i91 : (k == 91) = false := by simpa using h91
    have i92 : (k == 92) = false := by simpa using h92
    have i93 : (k == 93) = false := by simpa using h93
    have i94 : (k == 94) = false := by simpa using h94
    have i95 : (k == 95) = false := by simpa using h95
    have i96 : (k == 96) = false := by simpa using h96
    have i97 : (k == 97) = false := by simpa using h97
    have i99 : (k == 99) = false := by simpa using h99
    have i100 : (k == 100) = false := by simpa using h100
    have i98 : (k == 98) = false := by simpa using h98
    go_enter Tryz.func20, Tryz.ntmps20
    go_wp2
    go_ret2
    exact ⟨(by repeat (first | with_reducible exact Ext.refl _ | refine Ext.drewN ?_ _ | refine Ext.drew ?_ | refine Ext.alloc ?_ _ | assumption | (refine Below.trans ?_ (by assumption)) | (refine Ext.trans ?_ (by assumption)) | (refine Below.trans ?_ (Below.mono (by assumption) (by omega))))), rfl⟩
end Go.Proofs.YtldijmappinngaaGreatDoor
